/-
  Chapter 10: the walk of the reference's Assign. The memory is that of the given program; no conditions.
-/
import Derived.Test.YtagkdkkpgcolkaaSh14
import Derived.Test.YtagkdkkpgcolkaaSh15s
namespace Go.Proofs.Ytagkdkkpgcolkaa
open Go.RowKit
set_option linter.unusedVariables false
set_option linter.unusedSimpArgs false
theorem dIx_pass {ds : List Du} {s y : Int} {i : Nat} (h : i ≤ dIx ds s y) (hl : i < ds.length) (hne : ¬ (uS ds i = s ∧ uD ds i = y)) : i + 1 ≤ dIx ds s y := by
  rcases Nat.lt_or_ge i (dIx ds s y) with h1 | h1
  · exact h1
  · obtain rfl : i = dIx ds s y := by omega
    exact absurd (dIx_key ds s y hl) hne
theorem dIx_hit {ds : List Du} {s y : Int} {i : Nat} (h : i ≤ dIx ds s y) (he : uS ds i = s ∧ uD ds i = y) : i = dIx ds s y := by
  rcases Nat.lt_or_ge i (dIx ds s y) with h1 | h1
  · exact absurd he (dIx_before ds s y i h1)
  · omega
theorem DuO.cells {w : World} {base N gD n c : Nat} {ds : List Du} {ms : List M3} (h : DuO w base N (.slice (some ⟨gD, 0, none⟩) n c) ds ms) {i : Nat} (hi : i < ds.length) : w.cell? ⟨gD, i * 3, none⟩ = some (.int .i64 (uS ds i)) ∧ w.cell? ⟨gD, i * 3 + 1, none⟩ = some (.int .i64 (uD ds i)) := by
  have hc := h.row.cells (g := gD) rfl
  have hf := flatV_get ms i (by rw [h.len]; exact hi)
  have a0 := hc _ _ hf.1
  have a1 := hc _ _ hf.2.1
  rw [Go.WideShapes.add_plain, Nat.zero_add] at a0 a1
  obtain ⟨e1, e2, _⟩ := h.at_ i hi
  rw [e1] at a0
  rw [e2] at a1
  exact ⟨a0, a1⟩
section
variable {o : Int} {zl : List (Int × Int)} {l : List T3} {zA A : Option Addr} {zc zn n c : Nat} {W : World}
theorem rvalid10_at {ve : Int} (hzn : Hid (zn = zl.length)) (hn : Hid (n = l.length)) (hv : Hid (ve = vE o zl l)) (hz : RdP W W.heap.size zA zl) (hzl : Hid (zl.length ≤ 9223372036854775807)) (hr : RdT W W.heap.size A l) (hl : n ≤ 9223372036854775807) : Calls Try.prog 15 #[.agg #[.int .i64 o, .slice zA zn zc], .slice A n c] W (RetI ve W) := by
  rw [hv.out]; exact rvalid10_any o zA zc zn zl A c n l W hzn hn hz hzl.out hr hl
theorem rvalid9_at {l : List Pr} {v : Int} (hn : Hid (n = l.length)) (hv : Hid (v = prV l)) (hr : RdPr W A l) (hl : n ≤ 9223372036854775807) : Calls Try.prog 39 #[.slice A n c] W (RetI v W) := by
  rw [hv.out]; exact rvalid9_any A c n l W hn hr hl
theorem rbelongs_at {t early late b : Int} {S : List (Int × Int)} (hb : Hid (b = blV S t early late)) (hS : Hid (S = spL o zl l l.length)) (hzn : Hid (zn = zl.length)) (hn : Hid (n = l.length)) (hz : RdP W W.heap.size zA zl) (hzl : Hid (zl.length ≤ 9223372036854775807)) (hr : RdT W W.heap.size A l) (hv : Hid (vE o zl l = 0)) (ht0 : 0 ≤ t) (ht1 : t ≤ 120968640) (he : 0 ≤ early ∧ early ≤ 1440 ∧ 0 ≤ late ∧ late ≤ 1440) :
    Calls Try.prog 40 #[.agg #[.int .i64 o, .slice zA zn zc], .slice A n c, .int .i64 t, .int .i64 early, .int .i64 late] W (RetI b W) := by
  rw [hb.out, hS.out]; exact rbelongs_any o zA zc zn zl A c n l t early late W hzn hn hz hzl.out hr hv ht0 ht1 he.1 he.2.1 he.2.2.1 he.2.2.2
theorem rday_at {t d : Int} (hn : Hid (zn = zl.length)) (hz : Hid (zerr o zl = 0)) (hd : Hid (d = dayR o zl t)) (ht : instOk t) (hr : RdP W W.heap.size zA zl) (hl : Hid (zl.length ≤ 9223372036854775807)) : Calls Try.prog 41 #[.agg #[.int .i64 o, .slice zA zn zc], .int .i64 t] W (RetII d 0 W) := by
  have h := rday_any zA zc W.heap.size o zl W hr (Nat.le_refl _) hl.out t
  have he : offE o zl t = 0 := by unfold offE; rw [if_pos hz.out, if_pos ht]
  rw [he, ← hd.out, ← hn.out] at h
  exact h
end
/-- the duties so far, of the reference -/
structure AsR (o : Int) (zl : List (Int × Int)) (l : List T3) (P : List Pr) (S : List (Int × Int)) (early late : Int) (wL : World) (k : Nat) (A : Option Addr) (c : Nat) (wr : World) : Prop where
  du : ∃ ms, DuO wr wL.heap.size wr.heap.size (.slice A (asTo o zl l S early late P k).length c) (asTo o zl l S early late P k) ms
  bel : Below wL.heap.size wL wr
set_option maxRecDepth 100000 in
set_option maxHeartbeats 6400000 in
theorem rassign_any (o : Int) (zA : Option Addr) (zc zn : Nat) (zl : List (Int × Int)) (A : Option Addr) (c n : Nat) (l : List T3) (PA : Option Addr) (pc pn : Nat) (P : List Pr) (early late : Int) (w : World) (hzn : Hid (zn = zl.length)) (hn : Hid (n = l.length)) (hpn : Hid (pn = P.length)) (hz : RdP w w.heap.size zA zl) (hzl : zl.length ≤ 9223372036854775807) (hr : RdT w w.heap.size A l) (hl : n ≤ 9223372036854775807) (hp : RdPr w PA P) (hpl : pn ≤ 9223372036854775807) :
    Calls Try.prog 25 #[.agg #[.int .i64 o, .slice zA zn zc], .slice A n c, .slice PA pn pc, .int .i64 early, .int .i64 late] w (AssignPost o zl l P early late w) := by
  have HZ := Lib.hid hz
  have HR := Lib.hid hr
  have HP := Lib.hid hp
  have HZL := Lib.hid hzl
  clear hz hr hp hzl
  obtain ⟨idu, hiu, hiu0, hiu1, hiu2⟩ := info_parts infoDu
  have HIU := Lib.hid hiu
  have HIU0 := Lib.hid hiu0
  have HIU1 := Lib.hid hiu1
  have HIU2 := Lib.hid hiu2
  clear hiu hiu0 hiu1 hiu2
  obtain ⟨ve, Hve⟩ : ∃ v, Hid (v = vE o zl l) := ⟨_, Lib.hid rfl⟩
  obtain ⟨pv, Hpv⟩ : ∃ v, Hid (v = prV P) := ⟨_, Lib.hid rfl⟩
  have HB0 : Hid (∀ ob, Below w.heap.size w (w.alloc ob)) := Lib.hid (fun ob => (Below.refl _ _).alloc (Nat.le_refl _) _)
  go_enter Try.func25, Try.ntmps25
  go_wp2_with fail
  refine (rvalid10_at hzn hn Hve (rdP_up HZ (HB0.out _)) HZL (rdT_up HR (HB0.out _)) hl).mono ?_
  rintro e w1 ⟨rfl, hb1⟩
  have HZB1 : Hid (Blk w1 w.heap.size 25 #[.int .i64 o, .slice zA zn zc]) := Lib.hid ((Blk.new _ _ _).below hb1 (by simp))
  have HB1 : Hid (Below w.heap.size w w1) := Lib.hid ((HB0.out _).trans (hb1.mono (by simp)))
  clear hb1
  by_cases h1 : ve = 0
  rotate_left
  · have he1 : (ve == 0) = false := by simpa using h1
    have HE := Lib.hid h1
    have HV : Hid (asE o zl l P early late = ve) := Lib.hid (by unfold asE; rw [if_neg (by rw [← Hve.out]; exact h1), Hve.out])
    clear h1
    go_wp2
    exact bodyPost_ret (v := .tuple #[.slice none 0 0, .int .i64 ve]) (by simp [results, Try.results25, go_sem]) rfl (assign_bad HV HE.out HB1.out)
  subst h1
  have hasE : Hid (asE o zl l P early late = if 0 ≤ early ∧ early ≤ 1440 ∧ 0 ≤ late ∧ late ≤ 1440 then pv else 2) := Lib.hid (by unfold asE; rw [if_pos Hve.out.symm, Hpv.out])
  have HNo : Hid (¬ (0 ≤ early ∧ early ≤ 1440 ∧ 0 ≤ late ∧ late ≤ 1440) → asE o zl l P early late = 2) := Lib.hid (fun h => by rw [hasE.out, if_neg h])
  have HV0 : Hid (vE o zl l = 0) := Lib.hid Hve.out.symm
  rcases bool_cases (early < 0) with t0 | t0
  · have HV := Lib.hid (HNo.out (fun h => by simp at t0; omega))
    go_wp2
    exact bodyPost_ret (v := .tuple #[.slice none 0 0, .int .i64 2]) (by simp [results, Try.results25, go_sem]) rfl (assign_bad HV (by decide) HB1.out)
  rcases bool_cases (1440 < early) with t1 | t1
  · have HV := Lib.hid (HNo.out (fun h => by simp at t1; omega))
    go_wp2
    exact bodyPost_ret (v := .tuple #[.slice none 0 0, .int .i64 2]) (by simp [results, Try.results25, go_sem]) rfl (assign_bad HV (by decide) HB1.out)
  rcases bool_cases (late < 0) with t2 | t2
  · have HV := Lib.hid (HNo.out (fun h => by simp at t2; omega))
    go_wp2
    exact bodyPost_ret (v := .tuple #[.slice none 0 0, .int .i64 2]) (by simp [results, Try.results25, go_sem]) rfl (assign_bad HV (by decide) HB1.out)
  rcases bool_cases (1440 < late) with t3 | t3
  · have HV := Lib.hid (HNo.out (fun h => by simp at t3; omega))
    go_wp2
    exact bodyPost_ret (v := .tuple #[.slice none 0 0, .int .i64 2]) (by simp [results, Try.results25, go_sem]) rfl (assign_bad HV (by decide) HB1.out)
  have hel : 0 ≤ early ∧ early ≤ 1440 ∧ 0 ≤ late ∧ late ≤ 1440 := by simp at t0 t1 t2 t3; omega
  have HEL := Lib.hid hel
  have HEV : Hid (asE o zl l P early late = pv) := Lib.hid (by rw [hasE.out, if_pos hel])
  clear hel hasE HNo
  go_wp2_with fail
  refine (rvalid9_at hpn Hpv (HP.out.below HB1.out) hpl).mono ?_
  rintro e w2 ⟨rfl, hb2⟩
  have HB2 : Hid (Below w.heap.size w w2) := Lib.hid (HB1.out.trans (hb2.mono HB1.out.size))
  have HBv := Lib.hid hb2
  clear hb2 t0 t1 t2 t3
  by_cases hpv : pv = 0
  rotate_left
  · have he1 : (pv == 0) = false := by simpa using hpv
    have HE := Lib.hid hpv
    clear hpv
    go_wp2
    exact bodyPost_ret (v := .tuple #[.slice none 0 0, .int .i64 pv]) (by simp [results, Try.results25, go_sem]) rfl (assign_bad HEV HE.out HB2.out)
  subst hpv
  have HPV : Hid (P.length ≤ 1024 ∧ prOk P P.length) := Lib.hid (prV_of Hpv.out.symm)
  have hp1024 : pn ≤ 1024 := by rw [hpn.out]; exact HPV.out.1
  obtain ⟨S, HS⟩ : ∃ S, Hid (S = spL o zl l l.length) := ⟨_, Lib.hid rfl⟩
  have HSN : Hid (S.length = n) := Lib.hid (by rw [HS.out, spL_len, hn.out])
  have hn1 : n ≤ 1024 := by rw [hn.out]; exact (vE_zerr HV0.out).2.1
  have HSB : Hid (SBd S) := Lib.hid (by rw [HS.out]; exact spL_bd HV0.out)
  have HZ0 : Hid (zerr o zl = 0) := Lib.hid (vE_zerr HV0.out).1
  have HZB2 : Hid (Blk w2 w.heap.size 25 #[.int .i64 o, .slice zA zn zc]) := Lib.hid (HZB1.out.below HBv.out HZB1.out.lt)
  obtain ⟨wL, HwL⟩ : ∃ W, Hid (W = w2) := ⟨_, Lib.hid rfl⟩
  rw [← HwL.out] at HZB2 HB2 ⊢
  have HL0 : Hid (AsR o zl l P S early late wL 0 none 0 wL) := Lib.hid ⟨⟨[], DuO.nil _ _ _⟩, Below.refl _ _⟩
  clear HwL HZB1 HB0 HB1 HBv
  go_wp2
  go_loopw [14, 15] (fun v i wr => ∃ (k : Nat) (A : Option Addr) (c : Nat), k ≤ pn ∧ i = .int .i64 k ∧ v = .slice A (asTo o zl l S early late P k).length c ∧ AsR o zl l P S early late wL k A c wr) (fun _ i _ => pn - (intOf i).toNat)
  case atStart => exact ⟨0, none, 0, Nat.zero_le _, rfl, rfl, HL0.out⟩
  case round =>
    obtain ⟨k, A6, c6, hk, rfl, rfl, hL⟩ := hrel
    obtain ⟨⟨ms, hdu⟩, hbel⟩ := hL
    obtain ⟨ds, Hds⟩ : ∃ ds, Hid (ds = asTo o zl l S early late P k) := ⟨_, Lib.hid rfl⟩
    rw [← Hds.out] at hdu ⊢
    obtain ⟨dn, Hdn⟩ : ∃ dn, Hid (dn = ds.length) := ⟨_, Lib.hid rfl⟩
    rw [← Hdn.out] at hdu ⊢
    have HDu := Lib.hid hdu
    have HC := Lib.hid hbel
    have hdn : dn ≤ k := by rw [Hdn.out, Hds.out]; exact as_len k
    have HBwr : Hid (Below w.heap.size w wr) := Lib.hid (HB2.out.trans (hbel.mono HB2.out.size))
    have Hwr : Hid (wL.heap.size ≤ wr.heap.size) := Lib.hid hbel.size
    have HZr : Hid (Blk wr w.heap.size 25 #[.int .i64 o, .slice zA zn zc]) := Lib.hid (HZB2.out.below hbel HZB2.out.lt)
    clear hdu hbel HL0
    by_cases hlt : k < pn
    · have hkl : k < P.length := by rw [← hpn.out]; exact hlt
      obtain ⟨g, off, B, m, cb, rfl, hpw⟩ := pr_cells HP (Below.refl _ _) hkl
      obtain ⟨f, Hf⟩ : ∃ e, Hid (e = pF P k) := ⟨_, Lib.hid rfl⟩
      obtain ⟨t, Ht⟩ : ∃ e, Hid (e = pT P k) := ⟨_, Lib.hid rfl⟩
      obtain ⟨bs, Hbs⟩ : ∃ e, Hid (e = pB P k) := ⟨_, Lib.hid rfl⟩
      rw [← Hf.out, ← Ht.out, ← Hbs.out] at hpw
      have HPr := Lib.hid (hpw.below HBwr.out)
      have HPw := Lib.hid hpw
      have Hm : Hid (bs.length = m) := Lib.hid hpw.len
      have hfb := pF_bd (fun i hi => HPV.out.2 i (by omega) : prOk P (k + 1)) hkl
      have hm1 : m ≤ 1024 := by
        rw [← Hm.out, Hbs.out]
        exact (HPV.out.2 k hkl).2.2.2.1
      rw [← Hf.out] at hfb
      clear hpw
      obtain ⟨bv, Hbv⟩ : ∃ e, Hid (e = blV S f early late) := ⟨_, Lib.hid rfl⟩
      have hbb := bl_bd S f early late S.length
      have hbv : -1 ≤ bv ∧ bv < n := by rw [Hbv.out, ← HSN.out]; exact hbb
      clear hbb
      go_upto_region 13 with (fail)
      refine ras_region13 (bv := bv) (f := f) 13 (by kernel_rfl) rfl rfl rfl rfl rfl rfl rfl rfl rfl rfl rfl rfl rfl rfl (show 143 ≤ 143 from by decide) (fun _ _ _ _ _ h => h) rfl rfl rfl rfl rfl rfl hlt (HZr.out.cell 0) (HZr.out.cell 1) HPr.out.c0 (fun W hW => rbelongs_at Hbv HS hzn hn (rdP_up HZ (HBwr.out.trans (hW.mono HBwr.out.size))) HZL (rdT_up HR (HBwr.out.trans (hW.mono HBwr.out.size))) HV0 (by omega) (by omega) HEL.out) ?_
      intro z0 z1 z2 z3 z4 z5 z6 z7 z8 z9 z10 z11 g16 w4 HK4 HB4 HKge
      simp only [Act.put, List.setIfInBounds_toArray, List.set_cons_zero, List.set_cons_succ]
      have k0 : w4.cell? ⟨g16, 0, none⟩ = some (.int .i64 bv) := by have := HK4.out.cell 0; simpa using this
      have k1 : w4.cell? ⟨g16, 1, none⟩ = some (.int .i64 0) := by have := HK4.out.cell 1; simpa using this
      have kf : w4.frozen? ⟨g16, 1, none⟩ = false := HK4.out.frozen 1
      by_cases hb : 0 ≤ bv
      · obtain ⟨j, hj⟩ : ∃ j : Nat, bv = j := ⟨bv.toNat, by omega⟩
        subst hj
        have hjn : j < n := by omega
        have hjl : j < l.length := by rw [← hn.out]; exact hjn
        obtain ⟨gl, ol, rfl, d0, d1, d2⟩ := shift_cells HR (HBwr.out.trans (HB4.out.mono HBwr.out.size)) hjl
        obtain ⟨y, Hy0⟩ : ∃ d, Hid (d = tA l j) := ⟨_, Lib.hid rfl⟩
        rw [← Hy0.out] at d0
        have hsE := vE_sE HV0.out hjl
        go_upto_region 17 with (fail)
        obtain ⟨w5, Hw5⟩ : ∃ W, Hid (W = w4.setCell ⟨g16, 1, none⟩ (.int .i64 y)) := ⟨_, Lib.hid rfl⟩
        rw [← Hw5.out]
        have HK5 : Hid (Blk w5 g16 55 #[.int .i64 (j : Int), .int .i64 y, .slice none 0 0]) := Lib.hid (by rw [Hw5.out]; simpa using HK4.out.set_ 1 (.int .i64 y))
        have HB5 : Hid (Below wr.heap.size wr w5) := Lib.hid (by rw [Hw5.out]; exact HB4.out.setCell (p := ⟨g16, 1, none⟩) HKge.out _)
        have hday := sE_day HZ0.out hsE
        rw [← Hy0.out] at hday
        have HKB : Hid (KB (j : Int) y) := Lib.hid (by unfold KB; omega)
        have Hs : Hid ((j : Int) = kS S (pF P k) early late) := Lib.hid (by unfold kS; rw [← Hf.out]; exact Hbv.out)
        have Hy : Hid (y = kD o zl l S (pF P k) early late) := Lib.hid (by unfold kD; rw [← Hf.out, ← Hbv.out, if_pos hb]; simpa using Hy0.out)
        clear k0 k1 kf d0 d1 d2 hsE hday Hw5
        obtain ⟨N, HN⟩ : ∃ N, Hid (N = wr.heap.size) := ⟨_, Lib.hid rfl⟩
        have HDu5 : Hid (DuO w5 wL.heap.size N (.slice A6 dn c6) ds ms) := Lib.hid (by rw [HN.out]; exact HDu.out.below HB5.out (Nat.le_refl _))
        have HC5 : Hid (Below wL.heap.size wL w5) := Lib.hid (HC.out.trans (HB5.out.mono Hwr.out))
        have HN5 : Hid (N ≤ w5.heap.size) := Lib.hid (by rw [HN.out]; exact HB5.out.size)
        have HP5 : Hid (PrAt w5 g off k f t bs B m cb) := Lib.hid (HPr.out.below HB5.out)
        clear HN HB5 HB4 HK4 HKge HPr HZr HDu HC Hwr
        go_wp2
        go_loopw [17] (fun v wq => ∃ i : Nat, v = .int .i64 i ∧ i ≤ dIx ds (j : Int) y ∧ Below w5.heap.size w5 wq) (fun v _ => dn + 1 - (intOf v).toNat)
        case atStart => exact ⟨0, rfl, Nat.zero_le _, Below.refl _ _⟩
        case round =>
          obtain ⟨i, rfl, hi, hbq⟩ := hrel
          have HBq := Lib.hid hbq
          have hle := dIx_le ds (j : Int) y
          rw [← Hdn.out] at hle
          have HDq : Hid (DuO wr wL.heap.size N (.slice A6 dn c6) ds ms) := Lib.hid (HDu5.out.below hbq (Nat.le_refl _))
          have HKq : Hid (Blk wr g16 55 #[.int .i64 (j : Int), .int .i64 y, .slice none 0 0]) := Lib.hid (HK5.out.below hbq HK5.out.lt)
          clear hbq
          by_cases hid : i = dn
          · go_upto_region 18 with (fail)
            refine ras18_end 18 (by kernel_rfl) rfl rfl rfl rfl rfl rfl rfl rfl rfl rfl rfl rfl rfl rfl rfl rfl rfl rfl rfl rfl rfl rfl rfl rfl (show 143 ≤ 143 from by decide) (fun _ _ _ _ _ h => h) rfl rfl rfl hid ?_
            intro z0 z1 z2 z3 z4 z5 z6 z7 z8 z9 z10 z11 z12 z13 z14 z15 z16 z17 z18 z19 z20 z21 z22 w6 hb6
            simp only [Act.put, List.setIfInBounds_toArray, List.set_cons_zero, List.set_cons_succ]
            have HIx : Hid (dn = dIx ds (j : Int) y) := Lib.hid (by rw [hid] at hi; omega)
            have HB6 : Hid (Below w5.heap.size w5 w6) := Lib.hid (HBq.out.trans (Below.mono hb6 HBq.out.size))
            have HD6 : Hid (DuO w6 wL.heap.size N (.slice A6 dn c6) ds ms) := Lib.hid (HDq.out.below hb6 (Nat.le_refl _))
            have HK6 : Hid (Blk w6 g16 55 #[.int .i64 (j : Int), .int .i64 y, .slice none 0 0]) := Lib.hid (HKq.out.below hb6 HKq.out.lt)
            clear hb6
            have y0 : w6.cell? ⟨g16, 0, none⟩ = some (.int .i64 (j : Int)) := by have := HK6.out.cell 0; simpa using this
            have y1 : w6.cell? ⟨g16, 0 + 1, none⟩ = some (.int .i64 y) := by have := HK6.out.cell 1; simpa using this
            have y2 : w6.cell? ⟨g16, 0 + 2, none⟩ = some (.slice none 0 0) := by have := HK6.out.cell 2; simpa using this
            have HRow6 : Hid (w6.ownsRow wL.heap.size 55 3 (.slice A6 dn c6) dn (flatV ms)) := Lib.hid (by have h := HD6.out.row; rw [← Hdn.out] at h; exact h)
            have H3s : Hid (Src (w6.alloc (.cells #[.int .i64 (j : Int), .int .i64 y, .slice none 0 0] 55)) 3 (some ⟨w6.heap.size, 0, none⟩) 1 [.int .i64 (j : Int), .int .i64 y, .slice none 0 0]) := Lib.hid (three_src w6 _ _ _ _)
            have H3o : Hid (∀ u ∈ [Value.int .i64 (j : Int), Value.int .i64 y, .slice none 0 0], u.oneCell' = true) := Lib.hid (three_one _ _ _ _ _)
            subst hid
            go_upto_region 21 with (fail)
            clear y0 y1
            have y0 : w6.cell? ⟨g16, 0, none⟩ = some (.int .i64 (j : Int)) := by have := HK6.out.cell 0; simpa using this
            have y1 : w6.cell? ⟨g16, 1, none⟩ = some (.int .i64 y) := by have := HK6.out.cell 1; simpa using this
            have y2 : w6.cell? ⟨g16, 2, none⟩ = some (.slice none 0 0) := by have := HK6.out.cell 2; simpa using this
            go_wp2_with (at_builtin; refine wpList_app rfl (.tmp 114) (.tmp 116) 49 rfl wL.heap.size 55 idu _ 3 40 undDu HIU.out HIU0.out HIU1.out HIU2.out rfl (by decide) _ i _ rfl (HRow6.out.alloc _) _ 1 1 _ rfl H3s.out H3o.out ?_ ?_ ?_ ?_)
            · unfold maxLen; omega
            · omega
            · have h1 := HB6.out.size; have h2 := HC5.out.size; simp; omega
            intro A8 c8 w9 Ho8 Hg8 Hat8
            have HkA : Hid (Chg (fun g => (Value.slice A6 i c6).ownBlock = some g) w6 w9) := Lib.hid (((Chg.refl _ w6).alloc _).trans (Chg.of_grown (S := fun g => (Value.slice A6 i c6).ownBlock = some g) Hg8.out (fun i _ e => e)) (fun _ _ h => h))
            have HOb : Hid (∀ g, (Value.slice A6 i c6).ownBlock = some g → wL.heap.size ≤ g) := Lib.hid (fun g hg => (HRow6.out.lt g hg).1)
            have HC6 : Hid (Below wL.heap.size wL w6) := Lib.hid (HC5.out.trans (HB6.out.mono HC5.out.size))
            obtain ⟨gD, rfl⟩ : ∃ g, A8 = some ⟨g, 0, none⟩ := by
              obtain ⟨g, cap, hv, _, _⟩ := Ho8.out.form (by omega)
              injection hv with hA _ _
              exact ⟨g, hA⟩
            obtain ⟨wq, Hwq⟩ : ∃ W, Hid (W = w9) := ⟨_, Lib.hid rfl⟩
            obtain ⟨dsq, Hdsq⟩ : ∃ d, Hid (d = ds ++ [((j : Int), y, [])]) := ⟨_, Lib.hid rfl⟩
            obtain ⟨dq, Hdq0⟩ : ∃ d, Hid (d = i + 1) := ⟨_, Lib.hid rfl⟩
            obtain ⟨cq, Hcq⟩ : ∃ d, Hid (d = c8) := ⟨_, Lib.hid rfl⟩
            obtain ⟨iq, Hix⟩ : ∃ d, Hid (d = i) := ⟨_, Lib.hid rfl⟩
            have Hdq : Hid (dq = dsq.length) := Lib.hid (by rw [Hdq0.out, Hdsq.out, List.length_append]; have := Hdn.out; simp; omega)
            have Hiq : Hid (iq < dsq.length) := Lib.hid (by rw [Hix.out, Hdsq.out, List.length_append]; have := Hdn.out; simp; omega)
            have Huq : Hid ((uP dsq iq).length ≤ 2000) := Lib.hid (by rw [Hdsq.out, Hix.out, (uP_end Hdn.out).2.2]; simp)
            have HDUq : Hid (∃ ms', DuO wq wL.heap.size N (.slice (some ⟨gD, 0, none⟩) dq cq) dsq ms') := Lib.hid ⟨_, by rw [Hwq.out, Hdq0.out, Hcq.out, Hdsq.out]; exact HD6.out.push HkA.out (by have h := Ho8.out; rw [Hdn.out] at h ⊢; exact h)⟩
            have HCq : Hid (Below wL.heap.size wL wq) := Lib.hid (by rw [Hwq.out]; exact HC6.out.trans (Chg.below HkA.out HC6.out.size (fun i hi h => by have := HOb.out i h; omega)))
            have HNq : Hid (N ≤ wq.heap.size) := Lib.hid (by rw [Hwq.out]; exact Nat.le_trans (Nat.le_trans HN5.out HB6.out.size) HkA.out.size)
            have HPq : Hid (PrAt wq g off k f t bs B m cb) := Lib.hid (HPw.out.below (HB2.out.trans (HCq.out.mono HB2.out.size)))
            have Hnx : Hid (asTo o zl l S early late P (k + 1) = dsq.modify iq (dTo (f, t, bs))) := Lib.hid (by rw [as_next hkl Hs Hy Hf Ht Hbs, dAdd_eq, Hdsq.out, Hix.out, ← Hds.out, if_neg (by have h1 := HIx.out; have h2 := Hdn.out; omega), Hdn.out])
            rw [← Hwq.out, ← Hdq0.out, ← Hcq.out, ← Hix.out]
            clear y0 y1 y2 HKq HK6 HRow6 H3s H3o HkA HOb HD6 HDq HDu5 Ho8 Hg8 Hat8
            obtain ⟨ms', hduq⟩ := HDUq.out
            have HDq2 := Lib.hid hduq
            clear hduq
            go_upto_region 22 with (fail)
            refine ras_region22 (f := f) (t := t) (bs := bs) 22 (by kernel_rfl) rfl rfl rfl rfl rfl rfl rfl rfl rfl rfl rfl rfl rfl rfl (show 143 ≤ 143 from by decide) (fun _ _ _ _ _ h => h) rfl rfl hlt HPq.out.c0 HPq.out.c1 HPq.out.c2 HPq.out.rd Hm.out (by omega) ?_
            intro z0 z1 z2 z3 z4 z5 z6 z7 z8 z9 z10 z11 g18 Ac cc w7 HP7 HO7 HB7 Hg7
            simp only [Act.put, List.setIfInBounds_toArray, List.set_cons_zero, List.set_cons_succ]
            have HD7 : Hid (DuO w7 wL.heap.size N (.slice (some ⟨gD, 0, none⟩) dq cq) dsq ms') := Lib.hid (HDq2.out.below HB7.out (Nat.le_refl _))
            have HO8 : Hid (w7.ownsRow wL.heap.size 38 2 (.slice Ac m cc) m (flat2 bs)) := Lib.hid (own_base HO7.out (fun g hg => Nat.le_trans HCq.out.size (HO7.out.lt g hg).1))
            have HN7 : Hid (N ≤ w7.heap.size) := Lib.hid (Nat.le_trans HNq.out HB7.out.size)
            go_upto_region 23 with (fail)
            refine rdadd_region 23 (by kernel_rfl) (by decide) rfl rfl rfl rfl rfl rfl rfl rfl rfl rfl rfl rfl rfl (show 143 ≤ 143 from by decide) (fun _ _ _ _ _ h => h) rfl rfl rfl HD7.out Hiq.out Hdq.out HN7.out (Nat.le_trans HCq.out.size HB7.out.size) Hm.out.symm HO8.out Huq.out rfl (HP7.out.cell 0) (HP7.out.cell 1) (HP7.out.cell 2) ?_
            intro z0 z1 z2 z3 z4 z5 z6 z7 z8 z9 z10 z11 w8 HDU8 HC8
            simp only [Act.put, List.setIfInBounds_toArray, List.set_cons_zero, List.set_cons_succ]
            have HR8 : Hid (dq = (asTo o zl l S early late P (k + 1)).length ∧ AsR o zl l P S early late wL (k + 1) (some ⟨gD, 0, none⟩) cq w8) := Lib.hid (by
              have e := Hnx.out
              have el : dq = (asTo o zl l S early late P (k + 1)).length := by rw [e, List.length_modify]; exact Hdq.out
              refine ⟨el, ?_, ?_⟩
              · rw [← el, e]; exact HDU8.out
              · exact (HCq.out.trans (HB7.out.mono HCq.out.size)).trans (Chg.below HC8.out (Nat.le_trans HCq.out.size HB7.out.size) (fun i hi h => by omega)))
            go_wp2
            go_roundw
            case rel => exact ⟨k + 1, _, _, by omega, by go_num, by rw [← HR8.out.1], HR8.out.2⟩
            case measure => simp [intOf]; omega
          · have hin : i < ds.length := by have := Hdn.out; omega
            obtain ⟨gD, rfl⟩ : ∃ g, A6 = some ⟨g, 0, none⟩ := by
              obtain ⟨g', cap, hv, _, _⟩ := HDq.out.row.form (by omega)
              injection hv with hA _ _
              exact ⟨g', hA⟩
            have hcl := HDq.out.cells hin
            have HCl := Lib.hid hcl
            have y0 : wr.cell? ⟨g16, 0, none⟩ = some (.int .i64 (j : Int)) := by have := HKq.out.cell 0; simpa using this
            have y1 : wr.cell? ⟨g16, 0 + 1, none⟩ = some (.int .i64 y) := by have := HKq.out.cell 1; simpa using this
            have HY0 := Lib.hid y0
            have HY1 := Lib.hid y1
            clear hcl y0 y1
            by_cases hs : uS ds i = (j : Int)
            · by_cases hy : uD ds i = y
              · go_upto_region 18 with (fail)
                refine ras18_hit 18 (by kernel_rfl) rfl rfl rfl rfl rfl rfl rfl rfl rfl rfl rfl rfl rfl rfl rfl rfl rfl rfl rfl rfl rfl rfl rfl rfl (show 143 ≤ 143 from by decide) (fun _ _ _ _ _ h => h) rfl rfl rfl (by omega) HCl.out.1 HY0.out hs HCl.out.2 HY1.out hy ?_
                intro z0 z1 z2 z3 z4 z5 z6 z7 z8 z9 z10 z11 z12 z13 z14 z15 z16 z17 z18 z19 z20 z21 z22 w6 hb6
                simp only [Act.put, List.setIfInBounds_toArray, List.set_cons_zero, List.set_cons_succ]
                have HIx : Hid (i = dIx ds (j : Int) y) := Lib.hid (dIx_hit hi ⟨hs, hy⟩)
                have HB6 : Hid (Below w5.heap.size w5 w6) := Lib.hid (HBq.out.trans (Below.mono hb6 HBq.out.size))
                have HD6 : Hid (DuO w6 wL.heap.size N (.slice (some ⟨gD, 0, none⟩) dn c6) ds ms) := Lib.hid (HDq.out.below hb6 (Nat.le_refl _))
                clear hb6
                have hne : ¬ (i : Int) = dn := by omega
                go_upto_region 22 with (fail)
                obtain ⟨wq, Hwq⟩ : ∃ W, Hid (W = w6) := ⟨_, Lib.hid rfl⟩
                obtain ⟨dsq, Hdsq⟩ : ∃ d, Hid (d = ds) := ⟨_, Lib.hid rfl⟩
                obtain ⟨dq, Hdq0⟩ : ∃ d, Hid (d = dn) := ⟨_, Lib.hid rfl⟩
                obtain ⟨cq, Hcq⟩ : ∃ d, Hid (d = c6) := ⟨_, Lib.hid rfl⟩
                obtain ⟨iq, Hix⟩ : ∃ d, Hid (d = i) := ⟨_, Lib.hid rfl⟩
                have Hdq : Hid (dq = dsq.length) := Lib.hid (by rw [Hdq0.out, Hdn.out, Hdsq.out])
                have Hiq : Hid (iq < dsq.length) := Lib.hid (by rw [Hix.out, Hdsq.out]; exact hin)
                have Huq : Hid ((uP dsq iq).length ≤ 2000) := Lib.hid (by rw [Hdsq.out, Hds.out]; have := uP_len (o := o) (zl := zl) (l := l) (S := S) (early := early) (late := late) (P := P) k iq; omega)
                have HDUq : Hid (∃ ms', DuO wq wL.heap.size N (.slice (some ⟨gD, 0, none⟩) dq cq) dsq ms') := Lib.hid ⟨ms, by rw [Hwq.out, Hdq0.out, Hcq.out, Hdsq.out]; exact HD6.out⟩
                have HCq : Hid (Below wL.heap.size wL wq) := Lib.hid (by rw [Hwq.out]; exact HC5.out.trans (HB6.out.mono HC5.out.size))
                have HNq : Hid (N ≤ wq.heap.size) := Lib.hid (by rw [Hwq.out]; exact Nat.le_trans HN5.out HB6.out.size)
                have HPq : Hid (PrAt wq g off k f t bs B m cb) := Lib.hid (by rw [Hwq.out]; exact HP5.out.below HB6.out)
                have Hnx : Hid (asTo o zl l S early late P (k + 1) = dsq.modify iq (dTo (f, t, bs))) := Lib.hid (by rw [as_next hkl Hs Hy Hf Ht Hbs, dAdd_eq, Hdsq.out, Hix.out, HIx.out, ← Hds.out, if_pos (by rw [← HIx.out]; exact hin)])
                rw [← Hwq.out, ← Hdq0.out, ← Hcq.out, ← Hix.out]
                clear HCl HY0 HY1 HB6 HD6 HIx hne
                obtain ⟨ms', hduq⟩ := HDUq.out
                have HDq2 := Lib.hid hduq
                clear hduq
                go_upto_region 22 with (fail)
                refine ras_region22 (f := f) (t := t) (bs := bs) 22 (by kernel_rfl) rfl rfl rfl rfl rfl rfl rfl rfl rfl rfl rfl rfl rfl rfl (show 143 ≤ 143 from by decide) (fun _ _ _ _ _ h => h) rfl rfl hlt HPq.out.c0 HPq.out.c1 HPq.out.c2 HPq.out.rd Hm.out (by omega) ?_
                intro z0 z1 z2 z3 z4 z5 z6 z7 z8 z9 z10 z11 g18 Ac cc w7 HP7 HO7 HB7 Hg7
                simp only [Act.put, List.setIfInBounds_toArray, List.set_cons_zero, List.set_cons_succ]
                have HD7 : Hid (DuO w7 wL.heap.size N (.slice (some ⟨gD, 0, none⟩) dq cq) dsq ms') := Lib.hid (HDq2.out.below HB7.out (Nat.le_refl _))
                have HO8 : Hid (w7.ownsRow wL.heap.size 38 2 (.slice Ac m cc) m (flat2 bs)) := Lib.hid (own_base HO7.out (fun g hg => Nat.le_trans HCq.out.size (HO7.out.lt g hg).1))
                have HN7 : Hid (N ≤ w7.heap.size) := Lib.hid (Nat.le_trans HNq.out HB7.out.size)
                go_upto_region 23 with (fail)
                refine rdadd_region 23 (by kernel_rfl) (by decide) rfl rfl rfl rfl rfl rfl rfl rfl rfl rfl rfl rfl rfl (show 143 ≤ 143 from by decide) (fun _ _ _ _ _ h => h) rfl rfl rfl HD7.out Hiq.out Hdq.out HN7.out (Nat.le_trans HCq.out.size HB7.out.size) Hm.out.symm HO8.out Huq.out rfl (HP7.out.cell 0) (HP7.out.cell 1) (HP7.out.cell 2) ?_
                intro z0 z1 z2 z3 z4 z5 z6 z7 z8 z9 z10 z11 w8 HDU8 HC8
                simp only [Act.put, List.setIfInBounds_toArray, List.set_cons_zero, List.set_cons_succ]
                have HR8 : Hid (dq = (asTo o zl l S early late P (k + 1)).length ∧ AsR o zl l P S early late wL (k + 1) (some ⟨gD, 0, none⟩) cq w8) := Lib.hid (by
                  have e := Hnx.out
                  have el : dq = (asTo o zl l S early late P (k + 1)).length := by rw [e, List.length_modify]; exact Hdq.out
                  refine ⟨el, ?_, ?_⟩
                  · rw [← el, e]; exact HDU8.out
                  · exact (HCq.out.trans (HB7.out.mono HCq.out.size)).trans (Chg.below HC8.out (Nat.le_trans HCq.out.size HB7.out.size) (fun i hi h => by omega)))
                go_wp2
                go_roundw
                case rel => exact ⟨k + 1, _, _, by omega, by go_num, by rw [← HR8.out.1], HR8.out.2⟩
                case measure => simp [intOf]; omega
              · go_upto_region 18 with (fail)
                refine ras18_day 18 (by kernel_rfl) rfl rfl rfl rfl rfl rfl rfl rfl rfl rfl rfl rfl rfl rfl rfl rfl rfl rfl rfl rfl rfl rfl rfl rfl (show 143 ≤ 143 from by decide) (fun _ _ _ _ _ h => h) rfl rfl rfl (by omega) HCl.out.1 HY0.out hs HCl.out.2 HY1.out hy ?_
                intro z0 z1 z2 z3 z4 z5 z6 z7 z8 z9 z10 z11 z12 z13 z14 z15 z16 z17 z18 z19 z20 z21 z22 w6 hb6
                simp only [Act.put, List.setIfInBounds_toArray, List.set_cons_zero, List.set_cons_succ]
                have HB6 : Hid (Below w5.heap.size w5 w6) := Lib.hid (HBq.out.trans (Below.mono hb6 HBq.out.size))
                have HPs : Hid (i + 1 ≤ dIx ds (j : Int) y) := Lib.hid (dIx_pass hi hin (fun h => hy h.2))
                clear hb6
                go_wp2
                go_roundw
                case rel => exact ⟨i + 1, by go_num, HPs.out, HB6.out⟩
                case measure => simp [intOf]; omega
            · go_upto_region 18 with (fail)
              refine ras18_shift 18 (by kernel_rfl) rfl rfl rfl rfl rfl rfl rfl rfl rfl rfl rfl rfl rfl rfl rfl rfl rfl rfl rfl rfl rfl rfl rfl rfl (show 143 ≤ 143 from by decide) (fun _ _ _ _ _ h => h) rfl rfl rfl (by omega) HCl.out.1 HY0.out hs ?_
              intro z0 z1 z2 z3 z4 z5 z6 z7 z8 z9 z10 z11 z12 z13 z14 z15 z16 z17 z18 z19 z20 z21 z22 w6 hb6
              simp only [Act.put, List.setIfInBounds_toArray, List.set_cons_zero, List.set_cons_succ]
              have HB6 : Hid (Below w5.heap.size w5 w6) := Lib.hid (HBq.out.trans (Below.mono hb6 HBq.out.size))
              have HPs : Hid (i + 1 ≤ dIx ds (j : Int) y) := Lib.hid (dIx_pass hi hin (fun h => hs h.1))
              clear hb6
              go_wp2
              go_roundw
              case rel => exact ⟨i + 1, by go_num, HPs.out, HB6.out⟩
              case measure => simp [intOf]; omega
      · obtain ⟨y, Hy0⟩ : ∃ d, Hid (d = dayR o zl f) := ⟨_, Lib.hid rfl⟩
        go_upto_region 16 with (fail)
        refine ras_region16 (w0 := wr) (bv := bv) (f := f) (d := y) 16 (by kernel_rfl) rfl rfl rfl rfl rfl rfl rfl rfl rfl rfl rfl rfl rfl (show 143 ≤ 143 from by decide) (fun _ _ _ _ _ h => h) rfl rfl rfl rfl hlt HB4.out HKge.out HK4.out (HZr.out.cell 0) (HZr.out.cell 1) HPr.out.c0 (fun W hW => rday_at hzn HZ0 Hy0 ⟨by omega, by omega⟩ (rdP_up HZ (HBwr.out.trans ((Bel.trans HB4.out hW).mono HBwr.out.size))) HZL) ?_
        intro z0 z1 z2 z3 z4 z5 z6 z7 z8 z9 z10 z11 w5 HK5 HB5
        simp only [Act.put, List.setIfInBounds_toArray, List.set_cons_zero, List.set_cons_succ]
        have hday := dayR_bd (t := f) HZ0.out ⟨by omega, by omega⟩
        rw [← Hy0.out] at hday
        have HKB : Hid (KB bv y) := Lib.hid (by unfold KB; omega)
        have Hs : Hid (bv = kS S (pF P k) early late) := Lib.hid (by unfold kS; rw [← Hf.out]; exact Hbv.out)
        have Hy : Hid (y = kD o zl l S (pF P k) early late) := Lib.hid (by unfold kD; rw [← Hf.out, ← Hbv.out, if_neg (by omega)]; exact Hy0.out)
        clear k0 k1 kf hday
        obtain ⟨N, HN⟩ : ∃ N, Hid (N = wr.heap.size) := ⟨_, Lib.hid rfl⟩
        have HDu5 : Hid (DuO w5 wL.heap.size N (.slice A6 dn c6) ds ms) := Lib.hid (by rw [HN.out]; exact HDu.out.below HB5.out (Nat.le_refl _))
        have HC5 : Hid (Below wL.heap.size wL w5) := Lib.hid (HC.out.trans (HB5.out.mono Hwr.out))
        have HN5 : Hid (N ≤ w5.heap.size) := Lib.hid (by rw [HN.out]; exact HB5.out.size)
        have HP5 : Hid (PrAt w5 g off k f t bs B m cb) := Lib.hid (HPr.out.below HB5.out)
        clear HN HB5 HB4 HK4 HKge HPr HZr HDu HC Hwr
        go_wp2
        go_loopw [17] (fun v wq => ∃ i : Nat, v = .int .i64 i ∧ i ≤ dIx ds bv y ∧ Below w5.heap.size w5 wq) (fun v _ => dn + 1 - (intOf v).toNat)
        case atStart => exact ⟨0, rfl, Nat.zero_le _, Below.refl _ _⟩
        case round =>
          obtain ⟨i, rfl, hi, hbq⟩ := hrel
          have HBq := Lib.hid hbq
          have hle := dIx_le ds bv y
          rw [← Hdn.out] at hle
          have HDq : Hid (DuO wr wL.heap.size N (.slice A6 dn c6) ds ms) := Lib.hid (HDu5.out.below hbq (Nat.le_refl _))
          have HKq : Hid (Blk wr g16 55 #[.int .i64 bv, .int .i64 y, .slice none 0 0]) := Lib.hid (HK5.out.below hbq HK5.out.lt)
          clear hbq
          by_cases hid : i = dn
          · go_upto_region 18 with (fail)
            refine ras18_end 18 (by kernel_rfl) rfl rfl rfl rfl rfl rfl rfl rfl rfl rfl rfl rfl rfl rfl rfl rfl rfl rfl rfl rfl rfl rfl rfl rfl (show 143 ≤ 143 from by decide) (fun _ _ _ _ _ h => h) rfl rfl rfl hid ?_
            intro z0 z1 z2 z3 z4 z5 z6 z7 z8 z9 z10 z11 z12 z13 z14 z15 z16 z17 z18 z19 z20 z21 z22 w6 hb6
            simp only [Act.put, List.setIfInBounds_toArray, List.set_cons_zero, List.set_cons_succ]
            have HIx : Hid (dn = dIx ds bv y) := Lib.hid (by rw [hid] at hi; omega)
            have HB6 : Hid (Below w5.heap.size w5 w6) := Lib.hid (HBq.out.trans (Below.mono hb6 HBq.out.size))
            have HD6 : Hid (DuO w6 wL.heap.size N (.slice A6 dn c6) ds ms) := Lib.hid (HDq.out.below hb6 (Nat.le_refl _))
            have HK6 : Hid (Blk w6 g16 55 #[.int .i64 bv, .int .i64 y, .slice none 0 0]) := Lib.hid (HKq.out.below hb6 HKq.out.lt)
            clear hb6
            have y0 : w6.cell? ⟨g16, 0, none⟩ = some (.int .i64 bv) := by have := HK6.out.cell 0; simpa using this
            have y1 : w6.cell? ⟨g16, 0 + 1, none⟩ = some (.int .i64 y) := by have := HK6.out.cell 1; simpa using this
            have y2 : w6.cell? ⟨g16, 0 + 2, none⟩ = some (.slice none 0 0) := by have := HK6.out.cell 2; simpa using this
            have HRow6 : Hid (w6.ownsRow wL.heap.size 55 3 (.slice A6 dn c6) dn (flatV ms)) := Lib.hid (by have h := HD6.out.row; rw [← Hdn.out] at h; exact h)
            have H3s : Hid (Src (w6.alloc (.cells #[.int .i64 bv, .int .i64 y, .slice none 0 0] 55)) 3 (some ⟨w6.heap.size, 0, none⟩) 1 [.int .i64 bv, .int .i64 y, .slice none 0 0]) := Lib.hid (three_src w6 _ _ _ _)
            have H3o : Hid (∀ u ∈ [Value.int .i64 bv, Value.int .i64 y, .slice none 0 0], u.oneCell' = true) := Lib.hid (three_one _ _ _ _ _)
            subst hid
            go_upto_region 21 with (fail)
            clear y0 y1
            have y0 : w6.cell? ⟨g16, 0, none⟩ = some (.int .i64 bv) := by have := HK6.out.cell 0; simpa using this
            have y1 : w6.cell? ⟨g16, 1, none⟩ = some (.int .i64 y) := by have := HK6.out.cell 1; simpa using this
            have y2 : w6.cell? ⟨g16, 2, none⟩ = some (.slice none 0 0) := by have := HK6.out.cell 2; simpa using this
            go_wp2_with (at_builtin; refine wpList_app rfl (.tmp 114) (.tmp 116) 49 rfl wL.heap.size 55 idu _ 3 40 undDu HIU.out HIU0.out HIU1.out HIU2.out rfl (by decide) _ i _ rfl (HRow6.out.alloc _) _ 1 1 _ rfl H3s.out H3o.out ?_ ?_ ?_ ?_)
            · unfold maxLen; omega
            · omega
            · have h1 := HB6.out.size; have h2 := HC5.out.size; simp; omega
            intro A8 c8 w9 Ho8 Hg8 Hat8
            have HkA : Hid (Chg (fun g => (Value.slice A6 i c6).ownBlock = some g) w6 w9) := Lib.hid (((Chg.refl _ w6).alloc _).trans (Chg.of_grown (S := fun g => (Value.slice A6 i c6).ownBlock = some g) Hg8.out (fun i _ e => e)) (fun _ _ h => h))
            have HOb : Hid (∀ g, (Value.slice A6 i c6).ownBlock = some g → wL.heap.size ≤ g) := Lib.hid (fun g hg => (HRow6.out.lt g hg).1)
            have HC6 : Hid (Below wL.heap.size wL w6) := Lib.hid (HC5.out.trans (HB6.out.mono HC5.out.size))
            obtain ⟨gD, rfl⟩ : ∃ g, A8 = some ⟨g, 0, none⟩ := by
              obtain ⟨g, cap, hv, _, _⟩ := Ho8.out.form (by omega)
              injection hv with hA _ _
              exact ⟨g, hA⟩
            obtain ⟨wq, Hwq⟩ : ∃ W, Hid (W = w9) := ⟨_, Lib.hid rfl⟩
            obtain ⟨dsq, Hdsq⟩ : ∃ d, Hid (d = ds ++ [(bv, y, [])]) := ⟨_, Lib.hid rfl⟩
            obtain ⟨dq, Hdq0⟩ : ∃ d, Hid (d = i + 1) := ⟨_, Lib.hid rfl⟩
            obtain ⟨cq, Hcq⟩ : ∃ d, Hid (d = c8) := ⟨_, Lib.hid rfl⟩
            obtain ⟨iq, Hix⟩ : ∃ d, Hid (d = i) := ⟨_, Lib.hid rfl⟩
            have Hdq : Hid (dq = dsq.length) := Lib.hid (by rw [Hdq0.out, Hdsq.out, List.length_append]; have := Hdn.out; simp; omega)
            have Hiq : Hid (iq < dsq.length) := Lib.hid (by rw [Hix.out, Hdsq.out, List.length_append]; have := Hdn.out; simp; omega)
            have Huq : Hid ((uP dsq iq).length ≤ 2000) := Lib.hid (by rw [Hdsq.out, Hix.out, (uP_end Hdn.out).2.2]; simp)
            have HDUq : Hid (∃ ms', DuO wq wL.heap.size N (.slice (some ⟨gD, 0, none⟩) dq cq) dsq ms') := Lib.hid ⟨_, by rw [Hwq.out, Hdq0.out, Hcq.out, Hdsq.out]; exact HD6.out.push HkA.out (by have h := Ho8.out; rw [Hdn.out] at h ⊢; exact h)⟩
            have HCq : Hid (Below wL.heap.size wL wq) := Lib.hid (by rw [Hwq.out]; exact HC6.out.trans (Chg.below HkA.out HC6.out.size (fun i hi h => by have := HOb.out i h; omega)))
            have HNq : Hid (N ≤ wq.heap.size) := Lib.hid (by rw [Hwq.out]; exact Nat.le_trans (Nat.le_trans HN5.out HB6.out.size) HkA.out.size)
            have HPq : Hid (PrAt wq g off k f t bs B m cb) := Lib.hid (HPw.out.below (HB2.out.trans (HCq.out.mono HB2.out.size)))
            have Hnx : Hid (asTo o zl l S early late P (k + 1) = dsq.modify iq (dTo (f, t, bs))) := Lib.hid (by rw [as_next hkl Hs Hy Hf Ht Hbs, dAdd_eq, Hdsq.out, Hix.out, ← Hds.out, if_neg (by have h1 := HIx.out; have h2 := Hdn.out; omega), Hdn.out])
            rw [← Hwq.out, ← Hdq0.out, ← Hcq.out, ← Hix.out]
            clear y0 y1 y2 HKq HK6 HRow6 H3s H3o HkA HOb HD6 HDq HDu5 Ho8 Hg8 Hat8
            obtain ⟨ms', hduq⟩ := HDUq.out
            have HDq2 := Lib.hid hduq
            clear hduq
            go_upto_region 22 with (fail)
            refine ras_region22 (f := f) (t := t) (bs := bs) 22 (by kernel_rfl) rfl rfl rfl rfl rfl rfl rfl rfl rfl rfl rfl rfl rfl rfl (show 143 ≤ 143 from by decide) (fun _ _ _ _ _ h => h) rfl rfl hlt HPq.out.c0 HPq.out.c1 HPq.out.c2 HPq.out.rd Hm.out (by omega) ?_
            intro z0 z1 z2 z3 z4 z5 z6 z7 z8 z9 z10 z11 g18 Ac cc w7 HP7 HO7 HB7 Hg7
            simp only [Act.put, List.setIfInBounds_toArray, List.set_cons_zero, List.set_cons_succ]
            have HD7 : Hid (DuO w7 wL.heap.size N (.slice (some ⟨gD, 0, none⟩) dq cq) dsq ms') := Lib.hid (HDq2.out.below HB7.out (Nat.le_refl _))
            have HO8 : Hid (w7.ownsRow wL.heap.size 38 2 (.slice Ac m cc) m (flat2 bs)) := Lib.hid (own_base HO7.out (fun g hg => Nat.le_trans HCq.out.size (HO7.out.lt g hg).1))
            have HN7 : Hid (N ≤ w7.heap.size) := Lib.hid (Nat.le_trans HNq.out HB7.out.size)
            go_upto_region 23 with (fail)
            refine rdadd_region 23 (by kernel_rfl) (by decide) rfl rfl rfl rfl rfl rfl rfl rfl rfl rfl rfl rfl rfl (show 143 ≤ 143 from by decide) (fun _ _ _ _ _ h => h) rfl rfl rfl HD7.out Hiq.out Hdq.out HN7.out (Nat.le_trans HCq.out.size HB7.out.size) Hm.out.symm HO8.out Huq.out rfl (HP7.out.cell 0) (HP7.out.cell 1) (HP7.out.cell 2) ?_
            intro z0 z1 z2 z3 z4 z5 z6 z7 z8 z9 z10 z11 w8 HDU8 HC8
            simp only [Act.put, List.setIfInBounds_toArray, List.set_cons_zero, List.set_cons_succ]
            have HR8 : Hid (dq = (asTo o zl l S early late P (k + 1)).length ∧ AsR o zl l P S early late wL (k + 1) (some ⟨gD, 0, none⟩) cq w8) := Lib.hid (by
              have e := Hnx.out
              have el : dq = (asTo o zl l S early late P (k + 1)).length := by rw [e, List.length_modify]; exact Hdq.out
              refine ⟨el, ?_, ?_⟩
              · rw [← el, e]; exact HDU8.out
              · exact (HCq.out.trans (HB7.out.mono HCq.out.size)).trans (Chg.below HC8.out (Nat.le_trans HCq.out.size HB7.out.size) (fun i hi h => by omega)))
            go_wp2
            go_roundw
            case rel => exact ⟨k + 1, _, _, by omega, by go_num, by rw [← HR8.out.1], HR8.out.2⟩
            case measure => simp [intOf]; omega
          · have hin : i < ds.length := by have := Hdn.out; omega
            obtain ⟨gD, rfl⟩ : ∃ g, A6 = some ⟨g, 0, none⟩ := by
              obtain ⟨g', cap, hv, _, _⟩ := HDq.out.row.form (by omega)
              injection hv with hA _ _
              exact ⟨g', hA⟩
            have hcl := HDq.out.cells hin
            have HCl := Lib.hid hcl
            have y0 : wr.cell? ⟨g16, 0, none⟩ = some (.int .i64 bv) := by have := HKq.out.cell 0; simpa using this
            have y1 : wr.cell? ⟨g16, 0 + 1, none⟩ = some (.int .i64 y) := by have := HKq.out.cell 1; simpa using this
            have HY0 := Lib.hid y0
            have HY1 := Lib.hid y1
            clear hcl y0 y1
            by_cases hs : uS ds i = bv
            · by_cases hy : uD ds i = y
              · go_upto_region 18 with (fail)
                refine ras18_hit 18 (by kernel_rfl) rfl rfl rfl rfl rfl rfl rfl rfl rfl rfl rfl rfl rfl rfl rfl rfl rfl rfl rfl rfl rfl rfl rfl rfl (show 143 ≤ 143 from by decide) (fun _ _ _ _ _ h => h) rfl rfl rfl (by omega) HCl.out.1 HY0.out hs HCl.out.2 HY1.out hy ?_
                intro z0 z1 z2 z3 z4 z5 z6 z7 z8 z9 z10 z11 z12 z13 z14 z15 z16 z17 z18 z19 z20 z21 z22 w6 hb6
                simp only [Act.put, List.setIfInBounds_toArray, List.set_cons_zero, List.set_cons_succ]
                have HIx : Hid (i = dIx ds bv y) := Lib.hid (dIx_hit hi ⟨hs, hy⟩)
                have HB6 : Hid (Below w5.heap.size w5 w6) := Lib.hid (HBq.out.trans (Below.mono hb6 HBq.out.size))
                have HD6 : Hid (DuO w6 wL.heap.size N (.slice (some ⟨gD, 0, none⟩) dn c6) ds ms) := Lib.hid (HDq.out.below hb6 (Nat.le_refl _))
                clear hb6
                have hne : ¬ (i : Int) = dn := by omega
                go_upto_region 22 with (fail)
                obtain ⟨wq, Hwq⟩ : ∃ W, Hid (W = w6) := ⟨_, Lib.hid rfl⟩
                obtain ⟨dsq, Hdsq⟩ : ∃ d, Hid (d = ds) := ⟨_, Lib.hid rfl⟩
                obtain ⟨dq, Hdq0⟩ : ∃ d, Hid (d = dn) := ⟨_, Lib.hid rfl⟩
                obtain ⟨cq, Hcq⟩ : ∃ d, Hid (d = c6) := ⟨_, Lib.hid rfl⟩
                obtain ⟨iq, Hix⟩ : ∃ d, Hid (d = i) := ⟨_, Lib.hid rfl⟩
                have Hdq : Hid (dq = dsq.length) := Lib.hid (by rw [Hdq0.out, Hdn.out, Hdsq.out])
                have Hiq : Hid (iq < dsq.length) := Lib.hid (by rw [Hix.out, Hdsq.out]; exact hin)
                have Huq : Hid ((uP dsq iq).length ≤ 2000) := Lib.hid (by rw [Hdsq.out, Hds.out]; have := uP_len (o := o) (zl := zl) (l := l) (S := S) (early := early) (late := late) (P := P) k iq; omega)
                have HDUq : Hid (∃ ms', DuO wq wL.heap.size N (.slice (some ⟨gD, 0, none⟩) dq cq) dsq ms') := Lib.hid ⟨ms, by rw [Hwq.out, Hdq0.out, Hcq.out, Hdsq.out]; exact HD6.out⟩
                have HCq : Hid (Below wL.heap.size wL wq) := Lib.hid (by rw [Hwq.out]; exact HC5.out.trans (HB6.out.mono HC5.out.size))
                have HNq : Hid (N ≤ wq.heap.size) := Lib.hid (by rw [Hwq.out]; exact Nat.le_trans HN5.out HB6.out.size)
                have HPq : Hid (PrAt wq g off k f t bs B m cb) := Lib.hid (by rw [Hwq.out]; exact HP5.out.below HB6.out)
                have Hnx : Hid (asTo o zl l S early late P (k + 1) = dsq.modify iq (dTo (f, t, bs))) := Lib.hid (by rw [as_next hkl Hs Hy Hf Ht Hbs, dAdd_eq, Hdsq.out, Hix.out, HIx.out, ← Hds.out, if_pos (by rw [← HIx.out]; exact hin)])
                rw [← Hwq.out, ← Hdq0.out, ← Hcq.out, ← Hix.out]
                clear HCl HY0 HY1 HB6 HD6 HIx hne
                obtain ⟨ms', hduq⟩ := HDUq.out
                have HDq2 := Lib.hid hduq
                clear hduq
                go_upto_region 22 with (fail)
                refine ras_region22 (f := f) (t := t) (bs := bs) 22 (by kernel_rfl) rfl rfl rfl rfl rfl rfl rfl rfl rfl rfl rfl rfl rfl rfl (show 143 ≤ 143 from by decide) (fun _ _ _ _ _ h => h) rfl rfl hlt HPq.out.c0 HPq.out.c1 HPq.out.c2 HPq.out.rd Hm.out (by omega) ?_
                intro z0 z1 z2 z3 z4 z5 z6 z7 z8 z9 z10 z11 g18 Ac cc w7 HP7 HO7 HB7 Hg7
                simp only [Act.put, List.setIfInBounds_toArray, List.set_cons_zero, List.set_cons_succ]
                have HD7 : Hid (DuO w7 wL.heap.size N (.slice (some ⟨gD, 0, none⟩) dq cq) dsq ms') := Lib.hid (HDq2.out.below HB7.out (Nat.le_refl _))
                have HO8 : Hid (w7.ownsRow wL.heap.size 38 2 (.slice Ac m cc) m (flat2 bs)) := Lib.hid (own_base HO7.out (fun g hg => Nat.le_trans HCq.out.size (HO7.out.lt g hg).1))
                have HN7 : Hid (N ≤ w7.heap.size) := Lib.hid (Nat.le_trans HNq.out HB7.out.size)
                go_upto_region 23 with (fail)
                refine rdadd_region 23 (by kernel_rfl) (by decide) rfl rfl rfl rfl rfl rfl rfl rfl rfl rfl rfl rfl rfl (show 143 ≤ 143 from by decide) (fun _ _ _ _ _ h => h) rfl rfl rfl HD7.out Hiq.out Hdq.out HN7.out (Nat.le_trans HCq.out.size HB7.out.size) Hm.out.symm HO8.out Huq.out rfl (HP7.out.cell 0) (HP7.out.cell 1) (HP7.out.cell 2) ?_
                intro z0 z1 z2 z3 z4 z5 z6 z7 z8 z9 z10 z11 w8 HDU8 HC8
                simp only [Act.put, List.setIfInBounds_toArray, List.set_cons_zero, List.set_cons_succ]
                have HR8 : Hid (dq = (asTo o zl l S early late P (k + 1)).length ∧ AsR o zl l P S early late wL (k + 1) (some ⟨gD, 0, none⟩) cq w8) := Lib.hid (by
                  have e := Hnx.out
                  have el : dq = (asTo o zl l S early late P (k + 1)).length := by rw [e, List.length_modify]; exact Hdq.out
                  refine ⟨el, ?_, ?_⟩
                  · rw [← el, e]; exact HDU8.out
                  · exact (HCq.out.trans (HB7.out.mono HCq.out.size)).trans (Chg.below HC8.out (Nat.le_trans HCq.out.size HB7.out.size) (fun i hi h => by omega)))
                go_wp2
                go_roundw
                case rel => exact ⟨k + 1, _, _, by omega, by go_num, by rw [← HR8.out.1], HR8.out.2⟩
                case measure => simp [intOf]; omega
              · go_upto_region 18 with (fail)
                refine ras18_day 18 (by kernel_rfl) rfl rfl rfl rfl rfl rfl rfl rfl rfl rfl rfl rfl rfl rfl rfl rfl rfl rfl rfl rfl rfl rfl rfl rfl (show 143 ≤ 143 from by decide) (fun _ _ _ _ _ h => h) rfl rfl rfl (by omega) HCl.out.1 HY0.out hs HCl.out.2 HY1.out hy ?_
                intro z0 z1 z2 z3 z4 z5 z6 z7 z8 z9 z10 z11 z12 z13 z14 z15 z16 z17 z18 z19 z20 z21 z22 w6 hb6
                simp only [Act.put, List.setIfInBounds_toArray, List.set_cons_zero, List.set_cons_succ]
                have HB6 : Hid (Below w5.heap.size w5 w6) := Lib.hid (HBq.out.trans (Below.mono hb6 HBq.out.size))
                have HPs : Hid (i + 1 ≤ dIx ds bv y) := Lib.hid (dIx_pass hi hin (fun h => hy h.2))
                clear hb6
                go_wp2
                go_roundw
                case rel => exact ⟨i + 1, by go_num, HPs.out, HB6.out⟩
                case measure => simp [intOf]; omega
            · go_upto_region 18 with (fail)
              refine ras18_shift 18 (by kernel_rfl) rfl rfl rfl rfl rfl rfl rfl rfl rfl rfl rfl rfl rfl rfl rfl rfl rfl rfl rfl rfl rfl rfl rfl rfl (show 143 ≤ 143 from by decide) (fun _ _ _ _ _ h => h) rfl rfl rfl (by omega) HCl.out.1 HY0.out hs ?_
              intro z0 z1 z2 z3 z4 z5 z6 z7 z8 z9 z10 z11 z12 z13 z14 z15 z16 z17 z18 z19 z20 z21 z22 w6 hb6
              simp only [Act.put, List.setIfInBounds_toArray, List.set_cons_zero, List.set_cons_succ]
              have HB6 : Hid (Below w5.heap.size w5 w6) := Lib.hid (HBq.out.trans (Below.mono hb6 HBq.out.size))
              have HPs : Hid (i + 1 ≤ dIx ds bv y) := Lib.hid (dIx_pass hi hin (fun h => hs h.1))
              clear hb6
              go_wp2
              go_roundw
              case rel => exact ⟨i + 1, by go_num, HPs.out, HB6.out⟩
              case measure => simp [intOf]; omega
    · obtain rfl : k = pn := by omega
      obtain ⟨A7, c7, hv, hrd, hcap⟩ := HDu.out.form
      rw [← Hdn.out] at hv hcap
      injection hv with hA _ hc
      subst hA hc
      have HRd := Lib.hid hrd
      have HCap := Lib.hid hcap
      clear hrd hcap
      have HAl : Hid (asL o zl l P early late = ds) := Lib.hid (by unfold asL; rw [Hds.out, HS.out, ← hpn.out])
      go_wp2
      exact bodyPost_ret (v := .tuple #[.slice A6 dn c6, .int .i64 0]) (by simp [results, Try.results25, go_sem]) rfl ⟨HBwr.out, .inr ⟨HEV.out, A6, c6, dn, by rw [HAl.out]; exact Hdn.out, rfl, by rw [HAl.out]; exact HRd.out, HCap.out⟩⟩
end Go.Proofs.Ytagkdkkpgcolkaa
