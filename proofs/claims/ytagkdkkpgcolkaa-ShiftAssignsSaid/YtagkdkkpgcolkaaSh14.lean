/-
  Chapter 10: the walk of shift.Assign. The memory is that of the given program; no conditions.
-/
import Derived.Test.YtagkdkkpgcolkaaSh13
namespace Go.Proofs.Ytagkdkkpgcolkaa
open Go.RowKit
open Go.Maps (Keyed IsMap Tidy)
set_option linter.unusedVariables false
set_option linter.unusedSimpArgs false
theorem rdP_own {w : World} {base : Nat} {e : TypeId} {A : Option Addr} {c n : Nat} {S : List (Int × Int)} (hn : Hid (n = S.length)) (h : w.ownsRow base e 2 (.slice A n c) n (flat2 S)) : RdP w w.heap.size A S := by
  have e := hn.out
  subst e
  exact own_rd2 h
theorem sE_day {o : Int} {zl : List (Int × Int)} {l : List T3} (hz : zerr o zl = 0) {k : Nat} (hs : sE o zl l k = 0) : 0 ≤ tA l k ∧ tA l k ≤ 1000000000 := by
  have h1 : spE o zl (tA l k) (tB l k) (tC l k) = 0 := hs
  unfold spE at h1
  rw [if_pos hz] at h1
  split at h1
  · rename_i h2
    have h3 := h2.1
    unfold fldP at h3
    omega
  · cases h1
set_option maxRecDepth 100000 in
set_option maxHeartbeats 6400000 in
theorem assign_any (o : Int) (zA : Option Addr) (zc zn : Nat) (zl : List (Int × Int)) (A : Option Addr) (c n : Nat) (l : List T3) (PA : Option Addr) (pc pn : Nat) (P : List Pr) (early late : Int) (w : World) (hzn : Hid (zn = zl.length)) (hn : Hid (n = l.length)) (hpn : Hid (pn = P.length)) (hz : RdP w w.heap.size zA zl) (hzl : zl.length ≤ 9223372036854775807) (hr : RdT w w.heap.size A l) (hl : n ≤ 9223372036854775807) (hp : RdPr w PA P) (hpl : pn ≤ 9223372036854775807) :
    Calls Try.prog 24 #[.agg #[.int .i64 o, .slice zA zn zc], .slice A n c, .slice PA pn pc, .int .i64 early, .int .i64 late] w (AssignPost o zl l P early late w) := by
  have HZ := Lib.hid hz
  have HR := Lib.hid hr
  have HP := Lib.hid hp
  have HZL := Lib.hid hzl
  clear hz hr hp hzl
  obtain ⟨idu, hiu, hiu0, hiu1, hiu2⟩ := info_parts infoDu
  have HIU := Lib.hid hiu
  have HIU0 := Lib.hid hiu0
  have HIU1 := Lib.hid hiu1
  have HIU2 := Lib.hid hiu2
  clear hiu hiu0 hiu1 hiu2
  have hmm := @run_makeMap Try.prog
  obtain ⟨ve, Hve⟩ : ∃ v, Hid (v = vE o zl l) := ⟨_, Lib.hid rfl⟩
  obtain ⟨pv, Hpv⟩ : ∃ v, Hid (v = prV P) := ⟨_, Lib.hid rfl⟩
  have HB0 : Hid (∀ ob, Below w.heap.size w (w.alloc ob)) := Lib.hid (fun ob => (Below.refl _ _).alloc (Nat.le_refl _) _)
  go_enter Try.func24, Try.ntmps24
  go_wp2_with fail
  refine (spans_at hzn hn (rdP_up HZ (HB0.out _)) HZL (rdT_up HR (HB0.out _)) hl).mono ?_
  rintro e w1 ⟨hb1, h1⟩
  have HZB1 : Hid (Blk w1 w.heap.size 25 #[.int .i64 o, .slice zA zn zc]) := Lib.hid ((Blk.new _ _ _).below hb1 (by simp))
  have HB1 : Hid (Below w.heap.size w w1) := Lib.hid ((HB0.out _).trans (hb1.mono (by simp)))
  have HBs := Lib.hid hb1
  clear hb1
  rcases h1 with ⟨h1, rfl⟩ | ⟨h1, A1, c1, n1, h2, rfl, h3⟩
  · rw [← Hve.out] at h1 ⊢
    have he1 : (ve == 0) = false := by simpa using h1
    have HE := Lib.hid h1
    have HV : Hid (asE o zl l P early late = ve) := Lib.hid (by unfold asE; rw [if_neg (by rw [← Hve.out]; exact h1), Hve.out])
    clear h1
    go_wp2
    exact bodyPost_ret (v := .tuple #[.slice none 0 0, .int .i64 ve]) (by simp [results, Try.results24, go_sem]) rfl (assign_bad HV HE.out HB1.out)
  have hasE : Hid (asE o zl l P early late = if 0 ≤ early ∧ early ≤ 1440 ∧ 0 ≤ late ∧ late ≤ 1440 then pv else 2) := Lib.hid (by unfold asE; rw [if_pos h1, Hpv.out])
  have HNo : Hid (¬ (0 ≤ early ∧ early ≤ 1440 ∧ 0 ≤ late ∧ late ≤ 1440) → asE o zl l P early late = 2) := Lib.hid (fun h => by rw [hasE.out, if_neg h])
  have HV0 := Lib.hid h1
  have HSp := Lib.hid h3
  have HN1 := Lib.hid h2
  clear h1 h2 h3
  rcases bool_cases (early < 0) with t0 | t0
  · have HV := Lib.hid (HNo.out (fun h => by simp at t0; omega))
    go_wp2
    exact bodyPost_ret (v := .tuple #[.slice none 0 0, .int .i64 2]) (by simp [results, Try.results24, go_sem]) rfl (assign_bad HV (by decide) HB1.out)
  rcases bool_cases (1440 < early) with t1 | t1
  · have HV := Lib.hid (HNo.out (fun h => by simp at t1; omega))
    go_wp2
    exact bodyPost_ret (v := .tuple #[.slice none 0 0, .int .i64 2]) (by simp [results, Try.results24, go_sem]) rfl (assign_bad HV (by decide) HB1.out)
  rcases bool_cases (late < 0) with t2 | t2
  · have HV := Lib.hid (HNo.out (fun h => by simp at t2; omega))
    go_wp2
    exact bodyPost_ret (v := .tuple #[.slice none 0 0, .int .i64 2]) (by simp [results, Try.results24, go_sem]) rfl (assign_bad HV (by decide) HB1.out)
  rcases bool_cases (1440 < late) with t3 | t3
  · have HV := Lib.hid (HNo.out (fun h => by simp at t3; omega))
    go_wp2
    exact bodyPost_ret (v := .tuple #[.slice none 0 0, .int .i64 2]) (by simp [results, Try.results24, go_sem]) rfl (assign_bad HV (by decide) HB1.out)
  have hel : 0 ≤ early ∧ early ≤ 1440 ∧ 0 ≤ late ∧ late ≤ 1440 := by simp at t0 t1 t2 t3; omega
  have HEL := Lib.hid hel
  have HEV : Hid (asE o zl l P early late = pv) := Lib.hid (by rw [hasE.out, if_pos hel])
  clear hel hasE HNo
  go_wp2_with fail
  refine (pvalid_at hpn Hpv (HP.out.below HB1.out) hpl).mono ?_
  rintro e w2 ⟨rfl, hb2⟩
  have HB2 : Hid (Below w.heap.size w w2) := Lib.hid (HB1.out.trans (hb2.mono HB1.out.size))
  have HBv := Lib.hid hb2
  clear hb2 t0 t1 t2 t3
  by_cases hpv : pv = 0
  rotate_left
  · have he1 : (pv == 0) = false := by simpa using hpv
    have HE := Lib.hid hpv
    clear hpv
    go_wp2
    exact bodyPost_ret (v := .tuple #[.slice none 0 0, .int .i64 pv]) (by simp [results, Try.results24, go_sem]) rfl (assign_bad HEV HE.out HB2.out)
  subst hpv
  have HPV : Hid (P.length ≤ 1024 ∧ prOk P P.length) := Lib.hid (prV_of Hpv.out.symm)
  have hp1024 : pn ≤ 1024 := by rw [hpn.out]; exact HPV.out.1
  obtain ⟨S, HS⟩ : ∃ S, Hid (S = spL o zl l l.length) := ⟨_, Lib.hid rfl⟩
  have HSN : Hid (n1 = S.length) := Lib.hid (by rw [HS.out, spL_len, HN1.out])
  have hn1 : n1 ≤ 1024 := by rw [HN1.out]; exact (vE_zerr HV0.out).2.1
  have HSB : Hid (SBd S) := Lib.hid (by rw [HS.out]; exact spL_bd HV0.out)
  have HZ0 : Hid (zerr o zl = 0) := Lib.hid (vE_zerr HV0.out).1
  have HSp2 : Hid (w2.ownsRow w.heap.size 38 2 (.slice A1 n1 c1) n1 (flat2 S)) := Lib.hid (by
    have h := own_chg HSp.out (Chg.of_below' HBv.out) (fun g hg hs => hs)
    rw [HS.out]
    exact own_base h (fun g hg => by have := (h.lt g hg).1; simp at this; omega))
  clear HSp HN1
  go_wp2
  obtain ⟨wL, HwL⟩ : ∃ W, Hid (W = w2.alloc (.map #[] 0)) := ⟨_, Lib.hid rfl⟩
  obtain ⟨b, Hb⟩ : ∃ b, Hid (b = w2.heap.size) := ⟨_, Lib.hid rfl⟩
  rw [← HwL.out, ← Hb.out]
  have HWL : Hid (w.heap.size ≤ wL.heap.size) := Lib.hid (by rw [HwL.out]; have := HB2.out.size; simp; omega)
  have Hbw : Hid (w.heap.size ≤ b) := Lib.hid (by rw [Hb.out]; exact HB2.out.size)
  have Hbl : Hid (b < wL.heap.size) := Lib.hid (by rw [HwL.out, Hb.out]; simp)
  have HBL : Hid (Below w.heap.size w wL) := Lib.hid (by rw [HwL.out]; exact HB2.out.alloc HB2.out.size _)
  have HZBL : Hid (Blk wL w.heap.size 25 #[.int .i64 o, .slice zA zn zc]) := Lib.hid (by rw [HwL.out]; exact (HZB1.out.below HBv.out HZB1.out.lt).alloc _)
  have HZne : Hid (w.heap.size ≠ b) := Lib.hid (by have h1 := HZB1.out.lt; have h2 := HBv.out.size; rw [Hb.out]; omega)
  have HSpL : Hid (wL.ownsRow w.heap.size 38 2 (.slice A1 n1 c1) n1 (flat2 S)) := Lib.hid (by rw [HwL.out]; exact HSp2.out.alloc _)
  have HSpN : Hid (∀ g, (Value.slice A1 n1 c1).ownBlock = some g → g ≠ b) := Lib.hid (fun g hg h => by have h1 := (HSp2.out.lt g hg).2; have h2 := Hb.out; omega)
  have HL0 : Hid (AsL o zl l P S early late wL b 0 none 0 wL) := Lib.hid (by rw [HwL.out, Hb.out]; exact AsL.nil _ _ _ _ _ _ _ _)
  clear HwL Hb HSp2 HZB1 HB0 HB1 HB2 HBs HBv
  go_loopw [16, 53] (fun v i wr => ∃ (k : Nat) (A : Option Addr) (c : Nat), k ≤ pn ∧ i = .int .i64 k ∧ v = .slice A (asTo o zl l S early late P k).length c ∧ AsL o zl l P S early late wL b k A c wr) (fun _ i _ => pn - (intOf i).toNat)
  case atStart => exact ⟨0, none, 0, Nat.zero_le _, rfl, rfl, HL0.out⟩
  case round =>
    obtain ⟨k, A6, c6, hk, rfl, rfl, hL⟩ := hrel
    obtain ⟨⟨ms, hdu⟩, hmap, hchg⟩ := hL
    obtain ⟨ds, Hds⟩ : ∃ ds, Hid (ds = asTo o zl l S early late P k) := ⟨_, Lib.hid rfl⟩
    rw [← Hds.out] at hdu hmap ⊢
    obtain ⟨dn, Hdn⟩ : ∃ dn, Hid (dn = ds.length) := ⟨_, Lib.hid rfl⟩
    rw [← Hdn.out] at hdu ⊢
    have HDu := Lib.hid hdu
    have HM := Lib.hid hmap
    have HC := Lib.hid hchg
    have hdn : dn ≤ k := by rw [Hdn.out, Hds.out]; exact as_len k
    have HBwr : Hid (Below w.heap.size w wr) := Lib.hid (HBL.out.trans (hchg.below HWL.out (fun i hi h => by have := Hbw.out; omega)))
    have Hwr : Hid (wL.heap.size ≤ wr.heap.size) := Lib.hid hchg.size
    clear hdu hmap hchg HL0
    by_cases hlt : k < pn
    · have hkl : k < P.length := by rw [← hpn.out]; exact hlt
      obtain ⟨g, off, B, m, cb, rfl, hpw⟩ := pr_cells HP (Below.refl _ _) hkl
      obtain ⟨f, Hf⟩ : ∃ e, Hid (e = pF P k) := ⟨_, Lib.hid rfl⟩
      obtain ⟨t, Ht⟩ : ∃ e, Hid (e = pT P k) := ⟨_, Lib.hid rfl⟩
      obtain ⟨bs, Hbs⟩ : ∃ e, Hid (e = pB P k) := ⟨_, Lib.hid rfl⟩
      rw [← Hf.out, ← Ht.out, ← Hbs.out] at hpw
      have hpr := hpw.below HBwr.out
      have HPr := Lib.hid hpr
      have HRBw := Lib.hid hpw.rd
      have Hm : Hid (bs.length = m) := Lib.hid hpw.len
      have hfb := pF_bd (fun i hi => HPV.out.2 i (by omega) : prOk P (k + 1)) hkl
      have hm1 : m ≤ 1024 := by
        rw [← Hm.out, Hbs.out]
        exact (HPV.out.2 k hkl).2.2.2.1
      rw [← Hf.out] at hfb
      have x0 := hpr.c0
      have x1 := hpr.c1
      have x2 := hpr.c2
      clear hpw hpr
      obtain ⟨bv, Hbv⟩ : ∃ e, Hid (e = blV S f early late) := ⟨_, Lib.hid rfl⟩
      have hbb := bl_bd S f early late S.length
      have hbv : -1 ≤ bv ∧ bv < n1 := by rw [Hbv.out, HSN.out]; exact hbb
      clear hbb
      have HSpr : Hid (wr.ownsRow w.heap.size 38 2 (.slice A1 n1 c1) n1 (flat2 S)) := Lib.hid (own_chg HSpL.out HC.out (fun g hg h => HSpN.out g hg h))
      have HZr : Hid (Blk wr w.heap.size 25 #[.int .i64 o, .slice zA zn zc]) := Lib.hid (HZBL.out.chg HC.out (fun h => HZne.out h))
      have hel := HEL.out
      go_wp2_with fail
      refine (belongs_at (S := S) Hbv HSN (rdP_own HSN (HSpr.out.alloc _)) (by omega) HSB.out (by omega) (by omega) hel.1 hel.2.1 hel.2.2.1 hel.2.2.2).mono ?_
      rintro e w3 ⟨rfl, hb3⟩
      have HP3 : Hid (Blk w3 wr.heap.size 58 #[.int .i64 f, .int .i64 t, .slice B m cb]) := Lib.hid ((Blk.new _ _ _).below hb3 (by simp))
      have HB3 : Hid (Below wr.heap.size wr w3) := Lib.hid (((Below.refl _ _).alloc (Nat.le_refl _) _).trans (hb3.mono (by simp)))
      obtain ⟨gp, Hgp⟩ : ∃ g, Hid (g = wr.heap.size) := ⟨_, Lib.hid rfl⟩
      rw [← Hgp.out] at HP3 ⊢
      clear hb3 x0 x1 x2 hel
      go_upto_region 15 with (fail)
      obtain ⟨w4, Hw4⟩ : ∃ W, Hid (W = w3.alloc (.cells #[.int .i64 bv, .int .i64 0] 78)) := ⟨_, Lib.hid rfl⟩
      rw [← Hw4.out]
      obtain ⟨gk, Hgk⟩ : ∃ g, Hid (g = w3.heap.size) := ⟨_, Lib.hid rfl⟩
      rw [← Hgk.out]
      have HP4 : Hid (Blk w4 gp 58 #[.int .i64 f, .int .i64 t, .slice B m cb]) := Lib.hid (by rw [Hw4.out]; exact HP3.out.alloc _)
      have HK4 : Hid (Blk w4 gk 78 #[.int .i64 bv, .int .i64 0]) := Lib.hid (by rw [Hw4.out, Hgk.out]; exact Blk.new _ _ _)
      have HB4 : Hid (Below wr.heap.size wr w4) := Lib.hid (by rw [Hw4.out]; exact HB3.out.alloc HB3.out.size _)
      have HKge : Hid (wr.heap.size ≤ gk) := Lib.hid (by rw [Hgk.out]; exact HB3.out.size)
      clear Hw4 HB3 HP3
      have k0 : w4.cell? ⟨gk, 0, none⟩ = some (.int .i64 bv) := by have := HK4.out.cell 0; simpa using this
      have k1 : w4.cell? ⟨gk, 1, none⟩ = some (.int .i64 0) := by have := HK4.out.cell 1; simpa using this
      have kf : w4.frozen? ⟨gk, 1, none⟩ = false := HK4.out.frozen 1
      by_cases hb : 0 ≤ bv
      · obtain ⟨j, hj⟩ : ∃ j : Nat, bv = j := ⟨bv.toNat, by omega⟩
        subst hj
        have hjl : j < l.length := by have h1 := hn.out; have h2 := HSN.out; rw [HS.out, spL_len] at h2; omega
        obtain ⟨gl, ol, rfl, d0, d1, d2⟩ := shift_cells HR (HBwr.out.trans (HB4.out.mono HBwr.out.size)) hjl
        obtain ⟨y, Hy0⟩ : ∃ d, Hid (d = tA l j) := ⟨_, Lib.hid rfl⟩
        rw [← Hy0.out] at d0
        have hjn : j < n := by rw [hn.out]; exact hjl
        have hsE := vE_sE HV0.out hjl
        go_upto_region 20 with (fail)
        obtain ⟨w5, Hw5⟩ : ∃ W, Hid (W = w4.setCell ⟨gk, 1, none⟩ (.int .i64 y)) := ⟨_, Lib.hid rfl⟩
        rw [← Hw5.out]
        have HK5 : Hid (Blk w5 gk 78 #[.int .i64 (j : Int), .int .i64 y]) := Lib.hid (by rw [Hw5.out]; simpa using HK4.out.set_ 1 (.int .i64 y))
        have HP5 : Hid (Blk w5 gp 58 #[.int .i64 f, .int .i64 t, .slice B m cb]) := Lib.hid (by rw [Hw5.out]; exact HP4.out.far (p := ⟨gk, 1, none⟩) (Blk.ne_ HP4.out HK4.out (by decide)) _)
        have HB5 : Hid (Below wr.heap.size wr w5) := Lib.hid (by rw [Hw5.out]; exact HB4.out.setCell (p := ⟨gk, 1, none⟩) HKge.out _)
        have hday := sE_day HZ0.out hsE
        rw [← Hy0.out] at hday
        have HKB : Hid (KB (j : Int) y) := Lib.hid (by unfold KB; omega)
        have Hs : Hid ((j : Int) = kS S (pF P k) early late) := Lib.hid (by unfold kS; rw [← Hf.out]; exact Hbv.out)
        have Hy : Hid (y = kD o zl l S (pF P k) early late) := Lib.hid (by unfold kD; rw [← Hf.out, ← Hbv.out, if_pos hb]; simpa using Hy0.out)
        clear k0 k1 kf d0 d1 d2 hsE hday Hw5
        have HC5 : Hid (Chg (fun g => g = b) wL w5) := Lib.hid (HC.out.trans (S' := fun _ => False) (Chg.of_below' HB5.out |>.mono (fun _ _ h => h)) (fun _ _ h => h.elim))
        have HDu5 : Hid (DuO w5 wL.heap.size wr.heap.size (.slice A6 dn c6) ds ms) := Lib.hid (HDu.out.below HB5.out (Nat.le_refl _))
        obtain ⟨D, hown, hD⟩ := HM.out.chg (S := fun _ => False) (Chg.of_below' HB5.out |>.mono (fun _ _ h => h)) (fun h => h)
        have HOwn := Lib.hid hown
        have HD := Lib.hid hD
        have HKey := Lib.hid (kL_kb HKB.out)
        have HRB5 : Hid (RdP w5 w5.heap.size B bs) := Lib.hid (rdP_up (Lib.hid HPr.out.rd) HB5.out)
        clear hown hD
        have k0 : w5.cell? ⟨gk, 0, none⟩ = some (.int .i64 (j : Int)) := by have := HK5.out.cell 0; simpa using this
        have k1 : w5.cell? ⟨gk, 1, none⟩ = some (.int .i64 y) := by have := HK5.out.cell 1; simpa using this
        by_cases hin : dIx ds (j : Int) y < ds.length
        · obtain ⟨gD, rfl⟩ : ∃ g, A6 = some ⟨g, 0, none⟩ := by
            obtain ⟨g, cap, hv, _, _⟩ := HDu.out.row.form (by omega)
            injection hv with hA _ _
            exact ⟨g, hA⟩
          have hh := (HD.out (j : Int) y HKB.out).1 hin
          have HHas := Lib.hid hh.1
          have HAt := Lib.hid hh.2
          clear hh
          go_wp2_with (first | (at_lookup; refine wpList_lookup_own_ok_int _ rfl _ _ 75 rfl 78 3 .i64 keyed78 und75 und3 (zero3 _) b k D rfl HOwn.out _ _ rfl HKey.out ?_) | fail)
          intro ix hat hwc
          rw [HHas.out]
          obtain ⟨iq, Hix⟩ : ∃ iq, Hid (iq = dIx ds (j : Int) y) := ⟨_, Lib.hid rfl⟩
          obtain rfl : ix = (iq : Int) := by
            rw [HAt.out, ← Hix.out] at hat
            injection hat with hat
            injection hat with _ hat
            exact hat.symm
          clear hat hwc
          obtain ⟨wq, Hwq⟩ : ∃ W, Hid (W = w5) := ⟨_, Lib.hid rfl⟩
          obtain ⟨dsq, Hdsq⟩ : ∃ d, Hid (d = ds) := ⟨_, Lib.hid rfl⟩
          obtain ⟨dq, Hdq0⟩ : ∃ d, Hid (d = dn) := ⟨_, Lib.hid rfl⟩
          obtain ⟨cq, Hcq⟩ : ∃ d, Hid (d = c6) := ⟨_, Lib.hid rfl⟩
          have Hdq : Hid (dq = dsq.length) := Lib.hid (by rw [Hdq0.out, Hdn.out, Hdsq.out])
          have Hiq : Hid (iq < dsq.length) := Lib.hid (by rw [Hix.out, Hdsq.out]; exact hin)
          have Huq : Hid ((uP dsq iq).length ≤ 2000) := Lib.hid (by rw [Hdsq.out, Hds.out]; have := uP_len (o := o) (zl := zl) (l := l) (S := S) (early := early) (late := late) (P := P) k iq; omega)
          have HDUq : Hid (∃ ms', DuO wq wL.heap.size wr.heap.size (.slice (some ⟨gD, 0, none⟩) dq cq) dsq ms') := Lib.hid ⟨ms, by rw [Hwq.out, Hdq0.out, Hcq.out, Hdsq.out]; exact HDu5.out⟩
          have HMq : Hid (MapO wq b (k + 1) dsq) := Lib.hid (by rw [Hwq.out, Hdsq.out]; exact ⟨D, HOwn.out.mono (by omega), HD.out⟩)
          have HCq : Hid (Chg (fun g => g = b) wL wq) := Lib.hid (by rw [Hwq.out]; exact HC5.out)
          have HPq : Hid (Blk wq gp 58 #[.int .i64 f, .int .i64 t, .slice B m cb]) := Lib.hid (by rw [Hwq.out]; exact HP5.out)
          have HRBq : Hid (RdP wq wq.heap.size B bs) := Lib.hid (by rw [Hwq.out]; exact HRB5.out)
          have Hnx : Hid (asTo o zl l S early late P (k + 1) = dsq.modify iq (dTo (f, t, bs))) := Lib.hid (by rw [as_next hkl Hs Hy Hf Ht Hbs, dAdd_eq, Hdsq.out, Hix.out, Hds.out, if_pos (by rw [← Hds.out]; exact hin)])
          rw [← Hwq.out, ← Hdq0.out, ← Hcq.out]
          obtain ⟨ms', hduq⟩ := HDUq.out
          have HDq := Lib.hid hduq
          clear hduq
          have q2 : wq.cell? ⟨gp, 2, none⟩ = some (.slice B m cb) := by have := HPq.out.cell 2; simpa using this
          go_wp2_with fail
          refine (cloneI_at (A := B) (c := cb) (s := bs) Hm.out HRBq.out (by omega)).mono ?_
          rintro e wt ⟨Ac, cc, rfl, hot, hbt⟩
          have HPt : Hid (Blk wt gp 58 #[.int .i64 f, .int .i64 t, .slice B m cb]) := Lib.hid (HPq.out.below hbt HPq.out.lt)
          have HOt := Lib.hid hot
          have HBt := Lib.hid hbt
          clear hot hbt q2
          have q2 : wt.cell? ⟨gp, 2, none⟩ = some (.slice B m cb) := by have := HPt.out.cell 2; simpa using this
          have qf : wt.frozen? ⟨gp, 2, none⟩ = false := HPt.out.frozen 2
          go_upto_region 26 with (fail)
          obtain ⟨w7, Hw7⟩ : ∃ W, Hid (W = wt.setCell ⟨gp, 2, none⟩ (.slice Ac m cc)) := ⟨_, Lib.hid rfl⟩
          rw [← Hw7.out]
          have kS : Hid (Chg (fun g => g = gp) wt w7) := Lib.hid (by rw [Hw7.out]; exact Chg.setCell (S := fun g => g = gp) (p := ⟨gp, 2, none⟩) (Chg.refl _ _) (fun _ => rfl) _)
          have HP7 : Hid (Blk w7 gp 58 #[.int .i64 f, .int .i64 t, .slice Ac m cc]) := Lib.hid (by rw [Hw7.out]; simpa using HPt.out.set_ 2 (.slice Ac m cc))
          have HD7 : Hid (DuO w7 wL.heap.size wr.heap.size (.slice (some ⟨gD, 0, none⟩) dq cq) dsq ms') := Lib.hid ((HDq.out.below HBt.out (Nat.le_refl _)).chg kS.out (Nat.le_refl _) (fun g hg => by
            subst hg
            exact ⟨fun cs hc => Blk.ne_ hc HPt.out (by decide) rfl, fun cs hc => Blk.ne_ hc HPt.out (by decide) rfl, fun cs _ => Nat.le_of_eq Hgp.out.symm⟩))
          have HO7 : Hid (w7.ownsRow wL.heap.size 38 2 (.slice Ac m cc) m (flat2 bs)) := Lib.hid (own_base (own_chg HOt.out kS.out (fun g hg hs => by
            obtain ⟨cs, hc⟩ := own_blk HOt.out hg
            subst hs
            exact Blk.ne_ hc HPt.out (by decide) rfl)) (fun g hg => Nat.le_trans HCq.out.size (by have := (HOt.out.lt g hg).1; exact this)))
          have HM7 : Hid (MapO w7 b (k + 1) dsq) := Lib.hid ((HMq.out.chg (S := fun _ => False) (Chg.of_below' HBt.out |>.mono (fun _ _ h => h)) (fun h => h)).chg kS.out (fun h => HMq.out.lt.2 _ _ (by rw [h]; exact HPq.out)))
          have HC7 : Hid (Chg (fun g => g = b) wL w7) := Lib.hid ((HCq.out.trans (S' := fun _ => False) (Chg.of_below' HBt.out |>.mono (fun _ _ h => h)) (fun _ _ h => h.elim)).trans kS.out (fun i hi h => by
            have h1 := Hgp.out
            have h2 := Hwr.out
            omega))
          have HS7 : Hid (w7.heap.size = wt.heap.size) := Lib.hid (by rw [Hw7.out]; simp)
          have hN7 : wr.heap.size ≤ w7.heap.size := by have h1 := HPq.out.lt; have h2 := HBt.out.size; have h3 := HS7.out; have h4 := Hgp.out; omega
          have p0 : w7.cell? ⟨gp, 0, none⟩ = some (.int .i64 f) := by have := HP7.out.cell 0; simpa using this
          have p1 : w7.cell? ⟨gp, 0 + 1, none⟩ = some (.int .i64 t) := by have := HP7.out.cell 1; simpa using this
          have p2 : w7.cell? ⟨gp, 0 + 2, none⟩ = some (.slice Ac m cc) := by have := HP7.out.cell 2; simpa using this
          have HCP0 := Lib.hid p0
          have HCP1 := Lib.hid p1
          have HCP2 := Lib.hid p2
          have HN7 := Lib.hid hN7
          clear q2 qf p0 p1 p2 hN7
          refine dadd_region 26 (by kernel_rfl) (by decide) rfl rfl rfl rfl rfl rfl rfl rfl rfl rfl rfl rfl rfl (show 126 ≤ 126 from by decide) (fun _ _ _ _ _ h => h) rfl rfl rfl HD7.out Hiq.out Hdq.out HN7.out (Nat.le_trans Hwr.out HN7.out) Hm.out.symm HO7.out Huq.out rfl HCP0.out HCP1.out HCP2.out ?_
          intro z0 z1 z2 z3 z4 z5 z6 z7 z8 z9 z10 z11 w8 HDU8 HC8
          simp only [Act.put, List.setIfInBounds_toArray, List.set_cons_zero, List.set_cons_succ]
          have HR8 : Hid (dq = (asTo o zl l S early late P (k + 1)).length ∧ AsL o zl l P S early late wL b (k + 1) (some ⟨gD, 0, none⟩) cq w8) := Lib.hid (by
            have e := Hnx.out
            have el : dq = (asTo o zl l S early late P (k + 1)).length := by rw [e, List.length_modify]; exact Hdq.out
            refine ⟨el, ?_, ?_, ?_⟩
            · rw [← el, e]; exact HDU8.out
            · rw [e]
              exact (HM7.out.chg HC8.out (fun h => by have := Hbl.out; omega)).mod _ _
            · exact HC7.out.trans HC8.out (fun i hi h => by omega))
          go_wp2
          go_roundw
          case rel => exact ⟨k + 1, _, _, by omega, by go_num, by rw [← HR8.out.1], HR8.out.2⟩
          case measure => simp [intOf]; omega
        · have HHas := Lib.hid ((HD.out (j : Int) y HKB.out).2 hin)
          go_wp2_with (first | (at_lookup; refine wpList_lookup_own_ok_int _ rfl _ _ 75 rfl 78 3 .i64 keyed78 und75 und3 (zero3 _) b k D rfl HOwn.out _ _ rfl HKey.out ?_) | fail)
          intro ix hat hwc
          rw [HHas.out]
          clear hat hwc
          go_wp2_with (first | (at_mapUpdate; refine wpList_mapUpdate_own _ rfl _ _ _ 75 rfl 78 3 keyed78 und75 _ b k D rfl HOwn.out ?_ _ _ (kL (j : Int) y) rfl rfl HKey.out (.lit (.int .i64 (dn : Nat))) [] (plainElem_int und3 (wf64 ?_ ?_)) ?_) | fail)
          · unfold maxLen; omega
          · omega
          · omega
          intro w6 hown6 hgrow6
          have HC6 : Hid (Chg (fun g => g = b) w5 w6) := Lib.hid (Chg.of_grown hgrow6 (fun i _ e => by injection e with e; exact e.symm))
          have HNb : Hid (∀ t cs, ¬ Blk w5 b t cs) := Lib.hid (MapO.lt ⟨D, HOwn.out, HD.out⟩).2
          have HM6 : Hid (MapO w6 b (k + 1) (ds ++ [((j : Int), y, [])])) := Lib.hid ⟨_, hown6, by rw [Hdn.out]; exact HD.out.put HOwn.out.isMap HKB.out hin⟩
          have HK6 : Hid (Blk w6 gk 78 #[.int .i64 (j : Int), .int .i64 y]) := Lib.hid (HK5.out.chg HC6.out (fun h => HNb.out _ _ (by rw [← h]; exact HK5.out)))
          have HP6 : Hid (Blk w6 gp 58 #[.int .i64 f, .int .i64 t, .slice B m cb]) := Lib.hid (HP5.out.chg HC6.out (fun h => HNb.out _ _ (by rw [← h]; exact HP5.out)))
          have HDu6 : Hid (DuO w6 wL.heap.size wr.heap.size (.slice A6 dn c6) ds ms) := Lib.hid (HDu5.out.chg HC6.out (Nat.le_refl _) (fun g hg => by
            subst hg
            exact ⟨fun cs hc => HNb.out _ _ hc, fun cs hc => HNb.out _ _ hc, fun cs hc => absurd hc (HNb.out _ _)⟩))
          clear hown6 hgrow6 k0 k1
          have k0 : w6.cell? ⟨gk, 0, none⟩ = some (.int .i64 (j : Int)) := by have := HK6.out.cell 0; simpa using this
          have k1 : w6.cell? ⟨gk, 1, none⟩ = some (.int .i64 y) := by have := HK6.out.cell 1; simpa using this
          have HRow6 : Hid (w6.ownsRow wL.heap.size 55 3 (.slice A6 dn c6) dn (flatV ms)) := Lib.hid (by have h := HDu6.out.row; rw [← Hdn.out] at h; exact h)
          have H3s : Hid (Src (w6.alloc (.cells #[.int .i64 (j : Int), .int .i64 y, .slice none 0 0] 55)) 3 (some ⟨w6.heap.size, 0, none⟩) 1 [.int .i64 (j : Int), .int .i64 y, .slice none 0 0]) := Lib.hid (three_src w6 _ _ _ _)
          have H3o : Hid (∀ u ∈ [Value.int .i64 (j : Int), Value.int .i64 y, .slice none 0 0], u.oneCell' = true) := Lib.hid (three_one _ _ _ _ _)
          go_wp2_with (at_builtin; refine wpList_app rfl (.tmp 100) (.tmp 106) 49 rfl wL.heap.size 55 idu _ 3 40 undDu HIU.out HIU0.out HIU1.out HIU2.out rfl (by decide) _ dn _ rfl (HRow6.out.alloc _) _ 1 1 _ rfl H3s.out H3o.out ?_ ?_ ?_ ?_)
          · unfold maxLen; omega
          · omega
          · have h1 := HC6.out.size; have h2 := HC5.out.size; simp; omega
          intro A8 c8 wq Ho8 Hg8 Hat8
          have HkA : Hid (Chg (fun g => (Value.slice A6 dn c6).ownBlock = some g) w6 wq) := Lib.hid (((Chg.refl _ w6).alloc _).trans (Chg.of_grown (S := fun g => (Value.slice A6 dn c6).ownBlock = some g) Hg8.out (fun i _ e => e)) (fun _ _ h => h))
          have HOb : Hid (∀ g, (Value.slice A6 dn c6).ownBlock = some g → wL.heap.size ≤ g ∧ ∃ cs, Blk w6 g 55 cs) := Lib.hid (fun g hg => ⟨(HRow6.out.lt g hg).1, own_blk HRow6.out hg⟩)
          obtain ⟨gD, rfl⟩ : ∃ g, A8 = some ⟨g, 0, none⟩ := by
            obtain ⟨g, cap, hv, _, _⟩ := Ho8.out.form (by omega)
            injection hv with hA _ _
            exact ⟨g, hA⟩
          obtain ⟨dsq, Hdsq⟩ : ∃ d, Hid (d = ds ++ [((j : Int), y, [])]) := ⟨_, Lib.hid rfl⟩
          obtain ⟨dq, Hdq0⟩ : ∃ d, Hid (d = dn + 1) := ⟨_, Lib.hid rfl⟩
          obtain ⟨iq, Hix⟩ : ∃ iq, Hid (iq = dn) := ⟨_, Lib.hid rfl⟩
          obtain ⟨cq, Hcq⟩ : ∃ d, Hid (d = c8) := ⟨_, Lib.hid rfl⟩
          have Hdq : Hid (dq = dsq.length) := Lib.hid (by rw [Hdq0.out, Hdn.out, Hdsq.out]; simp)
          have Hiq : Hid (iq < dsq.length) := Lib.hid (by rw [Hix.out, Hdn.out, Hdsq.out]; simp)
          have Huq : Hid ((uP dsq iq).length ≤ 2000) := Lib.hid (by rw [Hdsq.out, Hix.out, Hdn.out, (uP_end rfl).2.2]; simp)
          have HDUq : Hid (∃ ms', DuO wq wL.heap.size wr.heap.size (.slice (some ⟨gD, 0, none⟩) dq cq) dsq ms') := Lib.hid ⟨_, by rw [Hdq0.out, Hcq.out, Hdsq.out]; exact HDu6.out.push HkA.out (by have h := Ho8.out; rw [Hdn.out] at h ⊢; exact h)⟩
          have HMq : Hid (MapO wq b (k + 1) dsq) := Lib.hid (by rw [Hdsq.out]; exact HM6.out.chg HkA.out (fun h => by obtain ⟨_, cs, hc⟩ := HOb.out _ h; exact HM6.out.lt.2 _ _ hc))
          have HCq : Hid (Chg (fun g => g = b) wL wq) := Lib.hid ((HC5.out.trans HC6.out (fun _ _ h => h)).trans HkA.out (fun i hi h => by have := (HOb.out i h).1; omega))
          have HPq : Hid (Blk wq gp 58 #[.int .i64 f, .int .i64 t, .slice B m cb]) := Lib.hid (HP6.out.chg HkA.out (fun h => by obtain ⟨_, cs, hc⟩ := HOb.out _ h; exact Blk.ne_ hc HP6.out (by decide) rfl))
          have HRBq : Hid (RdP wq wq.heap.size B bs) := Lib.hid (rdP_up HRBw (HBL.out.trans (HCq.out.below HWL.out (fun i hi h => by have := Hbw.out; omega))))
          have Hnx : Hid (asTo o zl l S early late P (k + 1) = dsq.modify iq (dTo (f, t, bs))) := Lib.hid (by rw [as_next hkl Hs Hy Hf Ht Hbs, dAdd_eq, Hdsq.out, Hix.out, Hdn.out, Hds.out, if_neg (by rw [← Hds.out]; exact hin)])
          rw [← Hdq0.out, ← Hcq.out, ← Hix.out]
          clear k0 k1
          obtain ⟨ms', hduq⟩ := HDUq.out
          have HDq := Lib.hid hduq
          clear hduq
          have q2 : wq.cell? ⟨gp, 2, none⟩ = some (.slice B m cb) := by have := HPq.out.cell 2; simpa using this
          go_wp2_with fail
          refine (cloneI_at (A := B) (c := cb) (s := bs) Hm.out HRBq.out (by omega)).mono ?_
          rintro e wt ⟨Ac, cc, rfl, hot, hbt⟩
          have HPt : Hid (Blk wt gp 58 #[.int .i64 f, .int .i64 t, .slice B m cb]) := Lib.hid (HPq.out.below hbt HPq.out.lt)
          have HOt := Lib.hid hot
          have HBt := Lib.hid hbt
          clear hot hbt q2
          have q2 : wt.cell? ⟨gp, 2, none⟩ = some (.slice B m cb) := by have := HPt.out.cell 2; simpa using this
          have qf : wt.frozen? ⟨gp, 2, none⟩ = false := HPt.out.frozen 2
          go_upto_region 26 with (fail)
          obtain ⟨w7, Hw7⟩ : ∃ W, Hid (W = wt.setCell ⟨gp, 2, none⟩ (.slice Ac m cc)) := ⟨_, Lib.hid rfl⟩
          rw [← Hw7.out]
          have kS : Hid (Chg (fun g => g = gp) wt w7) := Lib.hid (by rw [Hw7.out]; exact Chg.setCell (S := fun g => g = gp) (p := ⟨gp, 2, none⟩) (Chg.refl _ _) (fun _ => rfl) _)
          have HP7 : Hid (Blk w7 gp 58 #[.int .i64 f, .int .i64 t, .slice Ac m cc]) := Lib.hid (by rw [Hw7.out]; simpa using HPt.out.set_ 2 (.slice Ac m cc))
          have HD7 : Hid (DuO w7 wL.heap.size wr.heap.size (.slice (some ⟨gD, 0, none⟩) dq cq) dsq ms') := Lib.hid ((HDq.out.below HBt.out (Nat.le_refl _)).chg kS.out (Nat.le_refl _) (fun g hg => by
            subst hg
            exact ⟨fun cs hc => Blk.ne_ hc HPt.out (by decide) rfl, fun cs hc => Blk.ne_ hc HPt.out (by decide) rfl, fun cs _ => Nat.le_of_eq Hgp.out.symm⟩))
          have HO7 : Hid (w7.ownsRow wL.heap.size 38 2 (.slice Ac m cc) m (flat2 bs)) := Lib.hid (own_base (own_chg HOt.out kS.out (fun g hg hs => by
            obtain ⟨cs, hc⟩ := own_blk HOt.out hg
            subst hs
            exact Blk.ne_ hc HPt.out (by decide) rfl)) (fun g hg => Nat.le_trans HCq.out.size (by have := (HOt.out.lt g hg).1; exact this)))
          have HM7 : Hid (MapO w7 b (k + 1) dsq) := Lib.hid ((HMq.out.chg (S := fun _ => False) (Chg.of_below' HBt.out |>.mono (fun _ _ h => h)) (fun h => h)).chg kS.out (fun h => HMq.out.lt.2 _ _ (by rw [h]; exact HPq.out)))
          have HC7 : Hid (Chg (fun g => g = b) wL w7) := Lib.hid ((HCq.out.trans (S' := fun _ => False) (Chg.of_below' HBt.out |>.mono (fun _ _ h => h)) (fun _ _ h => h.elim)).trans kS.out (fun i hi h => by
            have h1 := Hgp.out
            have h2 := Hwr.out
            omega))
          have HS7 : Hid (w7.heap.size = wt.heap.size) := Lib.hid (by rw [Hw7.out]; simp)
          have hN7 : wr.heap.size ≤ w7.heap.size := by have h1 := HPq.out.lt; have h2 := HBt.out.size; have h3 := HS7.out; have h4 := Hgp.out; omega
          have p0 : w7.cell? ⟨gp, 0, none⟩ = some (.int .i64 f) := by have := HP7.out.cell 0; simpa using this
          have p1 : w7.cell? ⟨gp, 0 + 1, none⟩ = some (.int .i64 t) := by have := HP7.out.cell 1; simpa using this
          have p2 : w7.cell? ⟨gp, 0 + 2, none⟩ = some (.slice Ac m cc) := by have := HP7.out.cell 2; simpa using this
          have HCP0 := Lib.hid p0
          have HCP1 := Lib.hid p1
          have HCP2 := Lib.hid p2
          have HN7 := Lib.hid hN7
          clear q2 qf p0 p1 p2 hN7
          refine dadd_region 26 (by kernel_rfl) (by decide) rfl rfl rfl rfl rfl rfl rfl rfl rfl rfl rfl rfl rfl (show 126 ≤ 126 from by decide) (fun _ _ _ _ _ h => h) rfl rfl rfl HD7.out Hiq.out Hdq.out HN7.out (Nat.le_trans Hwr.out HN7.out) Hm.out.symm HO7.out Huq.out rfl HCP0.out HCP1.out HCP2.out ?_
          intro z0 z1 z2 z3 z4 z5 z6 z7 z8 z9 z10 z11 w8 HDU8 HC8
          simp only [Act.put, List.setIfInBounds_toArray, List.set_cons_zero, List.set_cons_succ]
          have HR8 : Hid (dq = (asTo o zl l S early late P (k + 1)).length ∧ AsL o zl l P S early late wL b (k + 1) (some ⟨gD, 0, none⟩) cq w8) := Lib.hid (by
            have e := Hnx.out
            have el : dq = (asTo o zl l S early late P (k + 1)).length := by rw [e, List.length_modify]; exact Hdq.out
            refine ⟨el, ?_, ?_, ?_⟩
            · rw [← el, e]; exact HDU8.out
            · rw [e]
              exact (HM7.out.chg HC8.out (fun h => by have := Hbl.out; omega)).mod _ _
            · exact HC7.out.trans HC8.out (fun i hi h => by omega))
          go_wp2
          go_roundw
          case rel => exact ⟨k + 1, _, _, by omega, by go_num, by rw [← HR8.out.1], HR8.out.2⟩
          case measure => simp [intOf]; omega
      · obtain ⟨y, Hy0⟩ : ∃ d, Hid (d = dayR o zl f) := ⟨_, Lib.hid rfl⟩
        have z0 : w4.cell? ⟨w.heap.size, 0, none⟩ = some (.int .i64 o) := by have := (HZr.out.below HB4.out HZr.out.lt).cell 0; simpa using this
        have z1 : w4.cell? ⟨w.heap.size, 1, none⟩ = some (.slice zA zn zc) := by have := (HZr.out.below HB4.out HZr.out.lt).cell 1; simpa using this
        have e0 : w4.cell? ⟨gp, 0, none⟩ = some (.int .i64 f) := by have := HP4.out.cell 0; simpa using this
        go_wp2_with fail
        refine (day_at hzn HZ0 Hy0 ⟨by omega, by omega⟩ (rdP_up HZ (HBwr.out.trans (HB4.out.mono HBwr.out.size))) HZL).mono ?_
        rintro e w9 ⟨rfl, hb9⟩
        have HK9 : Hid (Blk w9 gk 78 #[.int .i64 bv, .int .i64 0]) := Lib.hid (HK4.out.below hb9 HK4.out.lt)
        have HP9 : Hid (Blk w9 gp 58 #[.int .i64 f, .int .i64 t, .slice B m cb]) := Lib.hid (HP4.out.below hb9 HP4.out.lt)
        have HB9 : Hid (Below wr.heap.size wr w9) := Lib.hid (HB4.out.trans (hb9.mono HB4.out.size))
        clear hb9 k0 k1 kf z0 z1 e0
        have k1 : w9.cell? ⟨gk, 1, none⟩ = some (.int .i64 0) := by have := HK9.out.cell 1; simpa using this
        have kf : w9.frozen? ⟨gk, 1, none⟩ = false := HK9.out.frozen 1
        go_upto_region 20 with (fail)
        obtain ⟨w5, Hw5⟩ : ∃ W, Hid (W = w9.setCell ⟨gk, 1, none⟩ (.int .i64 y)) := ⟨_, Lib.hid rfl⟩
        rw [← Hw5.out]
        have HK5 : Hid (Blk w5 gk 78 #[.int .i64 bv, .int .i64 y]) := Lib.hid (by rw [Hw5.out]; simpa using HK9.out.set_ 1 (.int .i64 y))
        have HP5 : Hid (Blk w5 gp 58 #[.int .i64 f, .int .i64 t, .slice B m cb]) := Lib.hid (by rw [Hw5.out]; exact HP9.out.far (p := ⟨gk, 1, none⟩) (Blk.ne_ HP9.out HK9.out (by decide)) _)
        have HB5 : Hid (Below wr.heap.size wr w5) := Lib.hid (by rw [Hw5.out]; exact HB9.out.setCell (p := ⟨gk, 1, none⟩) HKge.out _)
        have hday := dayR_bd (t := f) HZ0.out ⟨by omega, by omega⟩
        rw [← Hy0.out] at hday
        have HKB : Hid (KB bv y) := Lib.hid (by unfold KB; omega)
        have Hs : Hid (bv = kS S (pF P k) early late) := Lib.hid (by unfold kS; rw [← Hf.out]; exact Hbv.out)
        have Hy : Hid (y = kD o zl l S (pF P k) early late) := Lib.hid (by unfold kD; rw [← Hf.out, ← Hbv.out, if_neg (by omega)]; exact Hy0.out)
        clear k1 kf hday Hw5 HK9 HP9 HB9
        have HC5 : Hid (Chg (fun g => g = b) wL w5) := Lib.hid (HC.out.trans (S' := fun _ => False) (Chg.of_below' HB5.out |>.mono (fun _ _ h => h)) (fun _ _ h => h.elim))
        have HDu5 : Hid (DuO w5 wL.heap.size wr.heap.size (.slice A6 dn c6) ds ms) := Lib.hid (HDu.out.below HB5.out (Nat.le_refl _))
        obtain ⟨D, hown, hD⟩ := HM.out.chg (S := fun _ => False) (Chg.of_below' HB5.out |>.mono (fun _ _ h => h)) (fun h => h)
        have HOwn := Lib.hid hown
        have HD := Lib.hid hD
        have HKey := Lib.hid (kL_kb HKB.out)
        have HRB5 : Hid (RdP w5 w5.heap.size B bs) := Lib.hid (rdP_up (Lib.hid HPr.out.rd) HB5.out)
        clear hown hD
        have k0 : w5.cell? ⟨gk, 0, none⟩ = some (.int .i64 bv) := by have := HK5.out.cell 0; simpa using this
        have k1 : w5.cell? ⟨gk, 1, none⟩ = some (.int .i64 y) := by have := HK5.out.cell 1; simpa using this
        by_cases hin : dIx ds bv y < ds.length
        · obtain ⟨gD, rfl⟩ : ∃ g, A6 = some ⟨g, 0, none⟩ := by
            obtain ⟨g, cap, hv, _, _⟩ := HDu.out.row.form (by omega)
            injection hv with hA _ _
            exact ⟨g, hA⟩
          have hh := (HD.out bv y HKB.out).1 hin
          have HHas := Lib.hid hh.1
          have HAt := Lib.hid hh.2
          clear hh
          go_wp2_with (first | (at_lookup; refine wpList_lookup_own_ok_int _ rfl _ _ 75 rfl 78 3 .i64 keyed78 und75 und3 (zero3 _) b k D rfl HOwn.out _ _ rfl HKey.out ?_) | fail)
          intro ix hat hwc
          rw [HHas.out]
          obtain ⟨iq, Hix⟩ : ∃ iq, Hid (iq = dIx ds bv y) := ⟨_, Lib.hid rfl⟩
          obtain rfl : ix = (iq : Int) := by
            rw [HAt.out, ← Hix.out] at hat
            injection hat with hat
            injection hat with _ hat
            exact hat.symm
          clear hat hwc
          obtain ⟨wq, Hwq⟩ : ∃ W, Hid (W = w5) := ⟨_, Lib.hid rfl⟩
          obtain ⟨dsq, Hdsq⟩ : ∃ d, Hid (d = ds) := ⟨_, Lib.hid rfl⟩
          obtain ⟨dq, Hdq0⟩ : ∃ d, Hid (d = dn) := ⟨_, Lib.hid rfl⟩
          obtain ⟨cq, Hcq⟩ : ∃ d, Hid (d = c6) := ⟨_, Lib.hid rfl⟩
          have Hdq : Hid (dq = dsq.length) := Lib.hid (by rw [Hdq0.out, Hdn.out, Hdsq.out])
          have Hiq : Hid (iq < dsq.length) := Lib.hid (by rw [Hix.out, Hdsq.out]; exact hin)
          have Huq : Hid ((uP dsq iq).length ≤ 2000) := Lib.hid (by rw [Hdsq.out, Hds.out]; have := uP_len (o := o) (zl := zl) (l := l) (S := S) (early := early) (late := late) (P := P) k iq; omega)
          have HDUq : Hid (∃ ms', DuO wq wL.heap.size wr.heap.size (.slice (some ⟨gD, 0, none⟩) dq cq) dsq ms') := Lib.hid ⟨ms, by rw [Hwq.out, Hdq0.out, Hcq.out, Hdsq.out]; exact HDu5.out⟩
          have HMq : Hid (MapO wq b (k + 1) dsq) := Lib.hid (by rw [Hwq.out, Hdsq.out]; exact ⟨D, HOwn.out.mono (by omega), HD.out⟩)
          have HCq : Hid (Chg (fun g => g = b) wL wq) := Lib.hid (by rw [Hwq.out]; exact HC5.out)
          have HPq : Hid (Blk wq gp 58 #[.int .i64 f, .int .i64 t, .slice B m cb]) := Lib.hid (by rw [Hwq.out]; exact HP5.out)
          have HRBq : Hid (RdP wq wq.heap.size B bs) := Lib.hid (by rw [Hwq.out]; exact HRB5.out)
          have Hnx : Hid (asTo o zl l S early late P (k + 1) = dsq.modify iq (dTo (f, t, bs))) := Lib.hid (by rw [as_next hkl Hs Hy Hf Ht Hbs, dAdd_eq, Hdsq.out, Hix.out, Hds.out, if_pos (by rw [← Hds.out]; exact hin)])
          rw [← Hwq.out, ← Hdq0.out, ← Hcq.out]
          obtain ⟨ms', hduq⟩ := HDUq.out
          have HDq := Lib.hid hduq
          clear hduq
          have q2 : wq.cell? ⟨gp, 2, none⟩ = some (.slice B m cb) := by have := HPq.out.cell 2; simpa using this
          go_wp2_with fail
          refine (cloneI_at (A := B) (c := cb) (s := bs) Hm.out HRBq.out (by omega)).mono ?_
          rintro e wt ⟨Ac, cc, rfl, hot, hbt⟩
          have HPt : Hid (Blk wt gp 58 #[.int .i64 f, .int .i64 t, .slice B m cb]) := Lib.hid (HPq.out.below hbt HPq.out.lt)
          have HOt := Lib.hid hot
          have HBt := Lib.hid hbt
          clear hot hbt q2
          have q2 : wt.cell? ⟨gp, 2, none⟩ = some (.slice B m cb) := by have := HPt.out.cell 2; simpa using this
          have qf : wt.frozen? ⟨gp, 2, none⟩ = false := HPt.out.frozen 2
          go_upto_region 26 with (fail)
          obtain ⟨w7, Hw7⟩ : ∃ W, Hid (W = wt.setCell ⟨gp, 2, none⟩ (.slice Ac m cc)) := ⟨_, Lib.hid rfl⟩
          rw [← Hw7.out]
          have kS : Hid (Chg (fun g => g = gp) wt w7) := Lib.hid (by rw [Hw7.out]; exact Chg.setCell (S := fun g => g = gp) (p := ⟨gp, 2, none⟩) (Chg.refl _ _) (fun _ => rfl) _)
          have HP7 : Hid (Blk w7 gp 58 #[.int .i64 f, .int .i64 t, .slice Ac m cc]) := Lib.hid (by rw [Hw7.out]; simpa using HPt.out.set_ 2 (.slice Ac m cc))
          have HD7 : Hid (DuO w7 wL.heap.size wr.heap.size (.slice (some ⟨gD, 0, none⟩) dq cq) dsq ms') := Lib.hid ((HDq.out.below HBt.out (Nat.le_refl _)).chg kS.out (Nat.le_refl _) (fun g hg => by
            subst hg
            exact ⟨fun cs hc => Blk.ne_ hc HPt.out (by decide) rfl, fun cs hc => Blk.ne_ hc HPt.out (by decide) rfl, fun cs _ => Nat.le_of_eq Hgp.out.symm⟩))
          have HO7 : Hid (w7.ownsRow wL.heap.size 38 2 (.slice Ac m cc) m (flat2 bs)) := Lib.hid (own_base (own_chg HOt.out kS.out (fun g hg hs => by
            obtain ⟨cs, hc⟩ := own_blk HOt.out hg
            subst hs
            exact Blk.ne_ hc HPt.out (by decide) rfl)) (fun g hg => Nat.le_trans HCq.out.size (by have := (HOt.out.lt g hg).1; exact this)))
          have HM7 : Hid (MapO w7 b (k + 1) dsq) := Lib.hid ((HMq.out.chg (S := fun _ => False) (Chg.of_below' HBt.out |>.mono (fun _ _ h => h)) (fun h => h)).chg kS.out (fun h => HMq.out.lt.2 _ _ (by rw [h]; exact HPq.out)))
          have HC7 : Hid (Chg (fun g => g = b) wL w7) := Lib.hid ((HCq.out.trans (S' := fun _ => False) (Chg.of_below' HBt.out |>.mono (fun _ _ h => h)) (fun _ _ h => h.elim)).trans kS.out (fun i hi h => by
            have h1 := Hgp.out
            have h2 := Hwr.out
            omega))
          have HS7 : Hid (w7.heap.size = wt.heap.size) := Lib.hid (by rw [Hw7.out]; simp)
          have hN7 : wr.heap.size ≤ w7.heap.size := by have h1 := HPq.out.lt; have h2 := HBt.out.size; have h3 := HS7.out; have h4 := Hgp.out; omega
          have p0 : w7.cell? ⟨gp, 0, none⟩ = some (.int .i64 f) := by have := HP7.out.cell 0; simpa using this
          have p1 : w7.cell? ⟨gp, 0 + 1, none⟩ = some (.int .i64 t) := by have := HP7.out.cell 1; simpa using this
          have p2 : w7.cell? ⟨gp, 0 + 2, none⟩ = some (.slice Ac m cc) := by have := HP7.out.cell 2; simpa using this
          have HCP0 := Lib.hid p0
          have HCP1 := Lib.hid p1
          have HCP2 := Lib.hid p2
          have HN7 := Lib.hid hN7
          clear q2 qf p0 p1 p2 hN7
          refine dadd_region 26 (by kernel_rfl) (by decide) rfl rfl rfl rfl rfl rfl rfl rfl rfl rfl rfl rfl rfl (show 126 ≤ 126 from by decide) (fun _ _ _ _ _ h => h) rfl rfl rfl HD7.out Hiq.out Hdq.out HN7.out (Nat.le_trans Hwr.out HN7.out) Hm.out.symm HO7.out Huq.out rfl HCP0.out HCP1.out HCP2.out ?_
          intro z0 z1 z2 z3 z4 z5 z6 z7 z8 z9 z10 z11 w8 HDU8 HC8
          simp only [Act.put, List.setIfInBounds_toArray, List.set_cons_zero, List.set_cons_succ]
          have HR8 : Hid (dq = (asTo o zl l S early late P (k + 1)).length ∧ AsL o zl l P S early late wL b (k + 1) (some ⟨gD, 0, none⟩) cq w8) := Lib.hid (by
            have e := Hnx.out
            have el : dq = (asTo o zl l S early late P (k + 1)).length := by rw [e, List.length_modify]; exact Hdq.out
            refine ⟨el, ?_, ?_, ?_⟩
            · rw [← el, e]; exact HDU8.out
            · rw [e]
              exact (HM7.out.chg HC8.out (fun h => by have := Hbl.out; omega)).mod _ _
            · exact HC7.out.trans HC8.out (fun i hi h => by omega))
          go_wp2
          go_roundw
          case rel => exact ⟨k + 1, _, _, by omega, by go_num, by rw [← HR8.out.1], HR8.out.2⟩
          case measure => simp [intOf]; omega
        · have HHas := Lib.hid ((HD.out bv y HKB.out).2 hin)
          go_wp2_with (first | (at_lookup; refine wpList_lookup_own_ok_int _ rfl _ _ 75 rfl 78 3 .i64 keyed78 und75 und3 (zero3 _) b k D rfl HOwn.out _ _ rfl HKey.out ?_) | fail)
          intro ix hat hwc
          rw [HHas.out]
          clear hat hwc
          go_wp2_with (first | (at_mapUpdate; refine wpList_mapUpdate_own _ rfl _ _ _ 75 rfl 78 3 keyed78 und75 _ b k D rfl HOwn.out ?_ _ _ (kL bv y) rfl rfl HKey.out (.lit (.int .i64 (dn : Nat))) [] (plainElem_int und3 (wf64 ?_ ?_)) ?_) | fail)
          · unfold maxLen; omega
          · omega
          · omega
          intro w6 hown6 hgrow6
          have HC6 : Hid (Chg (fun g => g = b) w5 w6) := Lib.hid (Chg.of_grown hgrow6 (fun i _ e => by injection e with e; exact e.symm))
          have HNb : Hid (∀ t cs, ¬ Blk w5 b t cs) := Lib.hid (MapO.lt ⟨D, HOwn.out, HD.out⟩).2
          have HM6 : Hid (MapO w6 b (k + 1) (ds ++ [(bv, y, [])])) := Lib.hid ⟨_, hown6, by rw [Hdn.out]; exact HD.out.put HOwn.out.isMap HKB.out hin⟩
          have HK6 : Hid (Blk w6 gk 78 #[.int .i64 bv, .int .i64 y]) := Lib.hid (HK5.out.chg HC6.out (fun h => HNb.out _ _ (by rw [← h]; exact HK5.out)))
          have HP6 : Hid (Blk w6 gp 58 #[.int .i64 f, .int .i64 t, .slice B m cb]) := Lib.hid (HP5.out.chg HC6.out (fun h => HNb.out _ _ (by rw [← h]; exact HP5.out)))
          have HDu6 : Hid (DuO w6 wL.heap.size wr.heap.size (.slice A6 dn c6) ds ms) := Lib.hid (HDu5.out.chg HC6.out (Nat.le_refl _) (fun g hg => by
            subst hg
            exact ⟨fun cs hc => HNb.out _ _ hc, fun cs hc => HNb.out _ _ hc, fun cs hc => absurd hc (HNb.out _ _)⟩))
          clear hown6 hgrow6 k0 k1
          have k0 : w6.cell? ⟨gk, 0, none⟩ = some (.int .i64 bv) := by have := HK6.out.cell 0; simpa using this
          have k1 : w6.cell? ⟨gk, 1, none⟩ = some (.int .i64 y) := by have := HK6.out.cell 1; simpa using this
          have HRow6 : Hid (w6.ownsRow wL.heap.size 55 3 (.slice A6 dn c6) dn (flatV ms)) := Lib.hid (by have h := HDu6.out.row; rw [← Hdn.out] at h; exact h)
          have H3s : Hid (Src (w6.alloc (.cells #[.int .i64 bv, .int .i64 y, .slice none 0 0] 55)) 3 (some ⟨w6.heap.size, 0, none⟩) 1 [.int .i64 bv, .int .i64 y, .slice none 0 0]) := Lib.hid (three_src w6 _ _ _ _)
          have H3o : Hid (∀ u ∈ [Value.int .i64 bv, Value.int .i64 y, .slice none 0 0], u.oneCell' = true) := Lib.hid (three_one _ _ _ _ _)
          go_wp2_with (at_builtin; refine wpList_app rfl (.tmp 100) (.tmp 106) 49 rfl wL.heap.size 55 idu _ 3 40 undDu HIU.out HIU0.out HIU1.out HIU2.out rfl (by decide) _ dn _ rfl (HRow6.out.alloc _) _ 1 1 _ rfl H3s.out H3o.out ?_ ?_ ?_ ?_)
          · unfold maxLen; omega
          · omega
          · have h1 := HC6.out.size; have h2 := HC5.out.size; simp; omega
          intro A8 c8 wq Ho8 Hg8 Hat8
          have HkA : Hid (Chg (fun g => (Value.slice A6 dn c6).ownBlock = some g) w6 wq) := Lib.hid (((Chg.refl _ w6).alloc _).trans (Chg.of_grown (S := fun g => (Value.slice A6 dn c6).ownBlock = some g) Hg8.out (fun i _ e => e)) (fun _ _ h => h))
          have HOb : Hid (∀ g, (Value.slice A6 dn c6).ownBlock = some g → wL.heap.size ≤ g ∧ ∃ cs, Blk w6 g 55 cs) := Lib.hid (fun g hg => ⟨(HRow6.out.lt g hg).1, own_blk HRow6.out hg⟩)
          obtain ⟨gD, rfl⟩ : ∃ g, A8 = some ⟨g, 0, none⟩ := by
            obtain ⟨g, cap, hv, _, _⟩ := Ho8.out.form (by omega)
            injection hv with hA _ _
            exact ⟨g, hA⟩
          obtain ⟨dsq, Hdsq⟩ : ∃ d, Hid (d = ds ++ [(bv, y, [])]) := ⟨_, Lib.hid rfl⟩
          obtain ⟨dq, Hdq0⟩ : ∃ d, Hid (d = dn + 1) := ⟨_, Lib.hid rfl⟩
          obtain ⟨iq, Hix⟩ : ∃ iq, Hid (iq = dn) := ⟨_, Lib.hid rfl⟩
          obtain ⟨cq, Hcq⟩ : ∃ d, Hid (d = c8) := ⟨_, Lib.hid rfl⟩
          have Hdq : Hid (dq = dsq.length) := Lib.hid (by rw [Hdq0.out, Hdn.out, Hdsq.out]; simp)
          have Hiq : Hid (iq < dsq.length) := Lib.hid (by rw [Hix.out, Hdn.out, Hdsq.out]; simp)
          have Huq : Hid ((uP dsq iq).length ≤ 2000) := Lib.hid (by rw [Hdsq.out, Hix.out, Hdn.out, (uP_end rfl).2.2]; simp)
          have HDUq : Hid (∃ ms', DuO wq wL.heap.size wr.heap.size (.slice (some ⟨gD, 0, none⟩) dq cq) dsq ms') := Lib.hid ⟨_, by rw [Hdq0.out, Hcq.out, Hdsq.out]; exact HDu6.out.push HkA.out (by have h := Ho8.out; rw [Hdn.out] at h ⊢; exact h)⟩
          have HMq : Hid (MapO wq b (k + 1) dsq) := Lib.hid (by rw [Hdsq.out]; exact HM6.out.chg HkA.out (fun h => by obtain ⟨_, cs, hc⟩ := HOb.out _ h; exact HM6.out.lt.2 _ _ hc))
          have HCq : Hid (Chg (fun g => g = b) wL wq) := Lib.hid ((HC5.out.trans HC6.out (fun _ _ h => h)).trans HkA.out (fun i hi h => by have := (HOb.out i h).1; omega))
          have HPq : Hid (Blk wq gp 58 #[.int .i64 f, .int .i64 t, .slice B m cb]) := Lib.hid (HP6.out.chg HkA.out (fun h => by obtain ⟨_, cs, hc⟩ := HOb.out _ h; exact Blk.ne_ hc HP6.out (by decide) rfl))
          have HRBq : Hid (RdP wq wq.heap.size B bs) := Lib.hid (rdP_up HRBw (HBL.out.trans (HCq.out.below HWL.out (fun i hi h => by have := Hbw.out; omega))))
          have Hnx : Hid (asTo o zl l S early late P (k + 1) = dsq.modify iq (dTo (f, t, bs))) := Lib.hid (by rw [as_next hkl Hs Hy Hf Ht Hbs, dAdd_eq, Hdsq.out, Hix.out, Hdn.out, Hds.out, if_neg (by rw [← Hds.out]; exact hin)])
          rw [← Hdq0.out, ← Hcq.out, ← Hix.out]
          clear k0 k1
          obtain ⟨ms', hduq⟩ := HDUq.out
          have HDq := Lib.hid hduq
          clear hduq
          have q2 : wq.cell? ⟨gp, 2, none⟩ = some (.slice B m cb) := by have := HPq.out.cell 2; simpa using this
          go_wp2_with fail
          refine (cloneI_at (A := B) (c := cb) (s := bs) Hm.out HRBq.out (by omega)).mono ?_
          rintro e wt ⟨Ac, cc, rfl, hot, hbt⟩
          have HPt : Hid (Blk wt gp 58 #[.int .i64 f, .int .i64 t, .slice B m cb]) := Lib.hid (HPq.out.below hbt HPq.out.lt)
          have HOt := Lib.hid hot
          have HBt := Lib.hid hbt
          clear hot hbt q2
          have q2 : wt.cell? ⟨gp, 2, none⟩ = some (.slice B m cb) := by have := HPt.out.cell 2; simpa using this
          have qf : wt.frozen? ⟨gp, 2, none⟩ = false := HPt.out.frozen 2
          go_upto_region 26 with (fail)
          obtain ⟨w7, Hw7⟩ : ∃ W, Hid (W = wt.setCell ⟨gp, 2, none⟩ (.slice Ac m cc)) := ⟨_, Lib.hid rfl⟩
          rw [← Hw7.out]
          have kS : Hid (Chg (fun g => g = gp) wt w7) := Lib.hid (by rw [Hw7.out]; exact Chg.setCell (S := fun g => g = gp) (p := ⟨gp, 2, none⟩) (Chg.refl _ _) (fun _ => rfl) _)
          have HP7 : Hid (Blk w7 gp 58 #[.int .i64 f, .int .i64 t, .slice Ac m cc]) := Lib.hid (by rw [Hw7.out]; simpa using HPt.out.set_ 2 (.slice Ac m cc))
          have HD7 : Hid (DuO w7 wL.heap.size wr.heap.size (.slice (some ⟨gD, 0, none⟩) dq cq) dsq ms') := Lib.hid ((HDq.out.below HBt.out (Nat.le_refl _)).chg kS.out (Nat.le_refl _) (fun g hg => by
            subst hg
            exact ⟨fun cs hc => Blk.ne_ hc HPt.out (by decide) rfl, fun cs hc => Blk.ne_ hc HPt.out (by decide) rfl, fun cs _ => Nat.le_of_eq Hgp.out.symm⟩))
          have HO7 : Hid (w7.ownsRow wL.heap.size 38 2 (.slice Ac m cc) m (flat2 bs)) := Lib.hid (own_base (own_chg HOt.out kS.out (fun g hg hs => by
            obtain ⟨cs, hc⟩ := own_blk HOt.out hg
            subst hs
            exact Blk.ne_ hc HPt.out (by decide) rfl)) (fun g hg => Nat.le_trans HCq.out.size (by have := (HOt.out.lt g hg).1; exact this)))
          have HM7 : Hid (MapO w7 b (k + 1) dsq) := Lib.hid ((HMq.out.chg (S := fun _ => False) (Chg.of_below' HBt.out |>.mono (fun _ _ h => h)) (fun h => h)).chg kS.out (fun h => HMq.out.lt.2 _ _ (by rw [h]; exact HPq.out)))
          have HC7 : Hid (Chg (fun g => g = b) wL w7) := Lib.hid ((HCq.out.trans (S' := fun _ => False) (Chg.of_below' HBt.out |>.mono (fun _ _ h => h)) (fun _ _ h => h.elim)).trans kS.out (fun i hi h => by
            have h1 := Hgp.out
            have h2 := Hwr.out
            omega))
          have HS7 : Hid (w7.heap.size = wt.heap.size) := Lib.hid (by rw [Hw7.out]; simp)
          have hN7 : wr.heap.size ≤ w7.heap.size := by have h1 := HPq.out.lt; have h2 := HBt.out.size; have h3 := HS7.out; have h4 := Hgp.out; omega
          have p0 : w7.cell? ⟨gp, 0, none⟩ = some (.int .i64 f) := by have := HP7.out.cell 0; simpa using this
          have p1 : w7.cell? ⟨gp, 0 + 1, none⟩ = some (.int .i64 t) := by have := HP7.out.cell 1; simpa using this
          have p2 : w7.cell? ⟨gp, 0 + 2, none⟩ = some (.slice Ac m cc) := by have := HP7.out.cell 2; simpa using this
          have HCP0 := Lib.hid p0
          have HCP1 := Lib.hid p1
          have HCP2 := Lib.hid p2
          have HN7 := Lib.hid hN7
          clear q2 qf p0 p1 p2 hN7
          refine dadd_region 26 (by kernel_rfl) (by decide) rfl rfl rfl rfl rfl rfl rfl rfl rfl rfl rfl rfl rfl (show 126 ≤ 126 from by decide) (fun _ _ _ _ _ h => h) rfl rfl rfl HD7.out Hiq.out Hdq.out HN7.out (Nat.le_trans Hwr.out HN7.out) Hm.out.symm HO7.out Huq.out rfl HCP0.out HCP1.out HCP2.out ?_
          intro z0 z1 z2 z3 z4 z5 z6 z7 z8 z9 z10 z11 w8 HDU8 HC8
          simp only [Act.put, List.setIfInBounds_toArray, List.set_cons_zero, List.set_cons_succ]
          have HR8 : Hid (dq = (asTo o zl l S early late P (k + 1)).length ∧ AsL o zl l P S early late wL b (k + 1) (some ⟨gD, 0, none⟩) cq w8) := Lib.hid (by
            have e := Hnx.out
            have el : dq = (asTo o zl l S early late P (k + 1)).length := by rw [e, List.length_modify]; exact Hdq.out
            refine ⟨el, ?_, ?_, ?_⟩
            · rw [← el, e]; exact HDU8.out
            · rw [e]
              exact (HM7.out.chg HC8.out (fun h => by have := Hbl.out; omega)).mod _ _
            · exact HC7.out.trans HC8.out (fun i hi h => by omega))
          go_wp2
          go_roundw
          case rel => exact ⟨k + 1, _, _, by omega, by go_num, by rw [← HR8.out.1], HR8.out.2⟩
          case measure => simp [intOf]; omega
    · obtain rfl : k = pn := by omega
      obtain ⟨A7, c7, hv, hrd, hcap⟩ := HDu.out.form
      rw [← Hdn.out] at hv hcap
      injection hv with hA _ hc
      subst hA hc
      have HRd := Lib.hid hrd
      have HCap := Lib.hid hcap
      clear hrd hcap
      have HAl : Hid (asL o zl l P early late = ds) := Lib.hid (by unfold asL; rw [Hds.out, HS.out, ← hpn.out])
      go_wp2
      exact bodyPost_ret (v := .tuple #[.slice A6 dn c6, .int .i64 0]) (by simp [results, Try.results24, go_sem]) rfl ⟨HBwr.out, .inr ⟨HEV.out, A6, c6, dn, by rw [HAl.out]; exact Hdn.out, rfl, by rw [HAl.out]; exact HRd.out, HCap.out⟩⟩
end Go.Proofs.Ytagkdkkpgcolkaa
