/-
  Chapter 10: Valid of both packages. The memory is that of the given program; no conditions.
-/
import Derived.Test.YtagkdkkpgcolkaaSh5r
namespace Go.Proofs.Ytagkdkkpgcolkaa
open Go.RowKit
set_option linter.unusedVariables false
set_option linter.unusedSimpArgs false
section
variable {o : Int} {zl : List (Int × Int)} {l : List T3} {zA A : Option Addr} {zc zn n c : Nat} {w W : World} {ze : Int}
theorem spans_at (hzn : Hid (zn = zl.length)) (hn : Hid (n = l.length)) (hz : RdP W W.heap.size zA zl) (hzl : Hid (zl.length ≤ 9223372036854775807)) (hr : RdT W W.heap.size A l) (hl : n ≤ 9223372036854775807) : Calls Try.prog 30 #[.agg #[.int .i64 o, .slice zA zn zc], .slice A n c] W (SpansPost o zl l W) := by
  rw [hzn.out, hn.out]; exact spans_any o zA zc zl A c l W hz hzl.out hr (by rw [← hn.out]; exact hl)
theorem rvalid_at (hn : Hid (zn = zl.length)) (he : Hid (ze = zerr o zl)) (hr : RdP W W.heap.size zA zl) (hl : Hid (zl.length ≤ 9223372036854775807)) : Calls Try.prog 31 #[.agg #[.int .i64 o, .slice zA zn zc]] W (RetI ze W) := by
  rw [hn.out, he.out]; exact rvalid_any zA zc W.heap.size o zl W hr (Nat.le_refl _) hl.out
theorem sA_nonneg (hz : zerr o zl = 0) (k : Nat) (hs : sE o zl l k = 0) : 0 ≤ sA o zl l k := by
  have hV := zval_of hz
  unfold sA spA
  rw [if_pos (show spE o zl (tA l k) (tB l k) (tC l k) = 0 from hs)]
  exact (firstV_bd hV _).1
end
set_option maxRecDepth 100000 in
set_option maxHeartbeats 1600000 in
theorem valid_any (o : Int) (zA : Option Addr) (zc zn : Nat) (zl : List (Int × Int)) (A : Option Addr) (c n : Nat) (l : List T3) (w : World) (hzn : Hid (zn = zl.length)) (hn : Hid (n = l.length)) (hz : RdP w w.heap.size zA zl) (hzl : zl.length ≤ 9223372036854775807) (hr : RdT w w.heap.size A l) (hl : n ≤ 9223372036854775807) :
    Calls Try.prog 14 #[.agg #[.int .i64 o, .slice zA zn zc], .slice A n c] w (RetI (vE o zl l) w) := by
  have HZ := Lib.hid hz
  have HR := Lib.hid hr
  have HZL := Lib.hid hzl
  clear hz hr hzl
  obtain ⟨ve, Hve⟩ : ∃ v, Hid (v = vE o zl l) := ⟨_, Lib.hid rfl⟩
  rw [← Hve.out]
  have HB0 : Hid (∀ ob, Below w.heap.size w (w.alloc ob)) := Lib.hid (fun ob => (Below.refl _ _).alloc (Nat.le_refl _) _)
  go_enter Try.func14, Try.ntmps14
  go_wp2_with fail
  refine (spans_at hzn hn (rdP_up HZ (HB0.out _)) HZL (rdT_up HR (HB0.out _)) hl).mono ?_
  rintro e w1 ⟨hb1, h1⟩
  have HB1 := Lib.hid hb1
  clear hb1
  rcases h1 with ⟨h1, rfl⟩ | ⟨h1, A1, c1, n1, h2, rfl, _⟩
  · rw [← Hve.out]
    clear h1
    go_wp2
    go_ret
    exact ⟨rfl, (HB0.out _).trans (HB1.out.mono (by simp))⟩
  · rw [← Hve.out] at h1
    subst h1
    clear h2
    go_wp2
    go_ret
    exact ⟨rfl, (HB0.out _).trans (HB1.out.mono (by simp))⟩
/-- the reference's loop -/
structure RVL (o : Int) (zl : List (Int × Int)) (l : List T3) (w : World) (zA : Option Addr) (zn zc : Nat) (k : Nat) (wr : World) : Prop where
  ok : vTo o zl l k = 0
  zone : Blk wr w.heap.size 25 #[.int .i64 o, .slice zA zn zc]
  bel : Below w.heap.size w wr
set_option maxRecDepth 100000 in
set_option maxHeartbeats 1600000 in
theorem rvalid10_any (o : Int) (zA : Option Addr) (zc zn : Nat) (zl : List (Int × Int)) (A : Option Addr) (c n : Nat) (l : List T3) (w : World) (hzn : Hid (zn = zl.length)) (hn : Hid (n = l.length)) (hz : RdP w w.heap.size zA zl) (hzl : zl.length ≤ 9223372036854775807) (hr : RdT w w.heap.size A l) (hl : n ≤ 9223372036854775807) :
    Calls Try.prog 15 #[.agg #[.int .i64 o, .slice zA zn zc], .slice A n c] w (RetI (vE o zl l) w) := by
  have HZ := Lib.hid hz
  have HR := Lib.hid hr
  have HZL := Lib.hid hzl
  clear hz hr hzl
  obtain ⟨ve, Hve⟩ : ∃ v, Hid (v = vE o zl l) := ⟨_, Lib.hid rfl⟩
  obtain ⟨ze, Hze⟩ : ∃ v, Hid (v = zerr o zl) := ⟨_, Lib.hid rfl⟩
  rw [← Hve.out]
  have HB0 : Hid (∀ ob, Below w.heap.size w (w.alloc ob)) := Lib.hid (fun ob => (Below.refl _ _).alloc (Nat.le_refl _) _)
  by_cases hlong : 1024 < n
  · have hi : 1024 < (n : Int) := by omega
    have HV : Hid (ve = 3) := Lib.hid (by rw [Hve.out]; unfold vE; rw [if_pos (by rw [← hn.out]; exact hlong)])
    go_enter Try.func15, Try.ntmps15
    go_wp2
    go_ret
    exact ⟨ret_int HV.out.symm, HB0.out _⟩
  · have hi : ¬ 1024 < (n : Int) := by omega
    by_cases hz0 : ze = 0
    · subst hz0
      have HVv : Hid (ve = vTo o zl l n) := Lib.hid (by rw [Hve.out]; unfold vE; rw [if_neg (by rw [← hn.out]; exact hlong), if_pos Hze.out.symm, ← hn.out])
      go_enter Try.func15, Try.ntmps15
      go_wp2_with fail
      refine (rvalid_at hzn Hze (rdP_up HZ (HB0.out _)) HZL).mono ?_
      rintro e w1 ⟨rfl, hb1⟩
      have HB1 := Lib.hid hb1
      clear hb1
      go_wp2
      have HL0 : Hid (RVL o zl l w zA zn zc 0 w1) := Lib.hid ⟨rfl, (Blk.new _ _ _).below HB1.out (by simp), (HB0.out _).trans (HB1.out.mono (by simp))⟩
      go_loopw [6, 7] (fun v i wr => ∃ (k : Nat), k ≤ n ∧ i = .int .i64 k ∧ v = .int .i64 (endK o zl l k) ∧ RVL o zl l w zA zn zc k wr) (fun _ i _ => n - (intOf i).toNat)
      case atStart => exact ⟨0, Nat.zero_le _, rfl, rfl, HL0.out⟩
      case round =>
        obtain ⟨k, hk, rfl, rfl, hL⟩ := hrel
        have HL := Lib.hid hL
        clear hL HL0
        obtain ⟨en, Hen⟩ : ∃ e, Hid (e = endK o zl l k) := ⟨_, Lib.hid rfl⟩
        rw [← Hen.out]
        by_cases hlt : k < n
        · have hkl : k < l.length := by rw [← hn.out]; exact hlt
          obtain ⟨g, off, rfl, c0, c1, c2⟩ := shift_cells HR HL.out.bel hkl
          obtain ⟨d, Hd⟩ : ∃ d, Hid (d = tA l k) := ⟨_, Lib.hid rfl⟩
          obtain ⟨st, Hst⟩ : ∃ d, Hid (d = tB l k) := ⟨_, Lib.hid rfl⟩
          obtain ⟨mi, Hmi⟩ : ∃ d, Hid (d = tC l k) := ⟨_, Lib.hid rfl⟩
          obtain ⟨a, Ha⟩ : ∃ a, Hid (a = spA o zl d st mi) := ⟨_, Lib.hid rfl⟩
          obtain ⟨b, Hb⟩ : ∃ a, Hid (a = spB o zl d st mi) := ⟨_, Lib.hid rfl⟩
          obtain ⟨se, Hse⟩ : ∃ a, Hid (a = spE o zl d st mi) := ⟨_, Lib.hid rfl⟩
          rw [← Hd.out] at c0
          rw [← Hst.out] at c1
          rw [← Hmi.out] at c2
          have HSE : Hid (se = sE o zl l k) := Lib.hid (by rw [Hse.out, Hd.out, Hst.out, Hmi.out]; rfl)
          have HSA : Hid (a = sA o zl l k) := Lib.hid (by rw [Ha.out, Hd.out, Hst.out, Hmi.out]; rfl)
          have HSB : Hid (b = sB o zl l k) := Lib.hid (by rw [Hb.out, Hd.out, Hst.out, Hmi.out]; rfl)
          have HC0 := Lib.hid c0
          have HC1 := Lib.hid c1
          have HC2 := Lib.hid c2
          clear c0 c1 c2
          go_upto_region 10 with (fail)
          refine rvalid_region (o := o) (d := d) (st := st) (mi := mi) (x := a) (y := b) (e_ := se) 10 (by kernel_rfl) rfl rfl rfl rfl rfl rfl rfl rfl rfl rfl rfl rfl (show 42 ≤ 42 from by decide) (fun _ _ _ _ _ h => h) rfl rfl rfl hlt (HL.out.zone.cell 0) (HL.out.zone.cell 1) HC0.out HC1.out HC2.out (fun W hW => rspan_at hzn (rdP_up HZ (HL.out.bel.trans (hW.mono HL.out.bel.size))) HZL Ha Hb Hse) ?_
          intro z0 z1 z2 z3 z4 z5 z6 z7 z8 g8 w4 HBlk HBel
          simp only [Act.put, List.setIfInBounds_toArray, List.set_cons_zero, List.set_cons_succ]
          have HL4 : Hid (RVL o zl l w zA zn zc k w4) := Lib.hid ⟨HL.out.ok, HL.out.zone.below HBel.out HL.out.zone.lt, HL.out.bel.trans (HBel.out.mono HL.out.bel.size)⟩
          clear HC0 HC1 HC2 HL HBel
          have d0 : w4.cell? ⟨g8, 0, none⟩ = some (.int .i64 a) := HBlk.out.cell 0
          have d1 : w4.cell? ⟨g8, 1, none⟩ = some (.int .i64 b) := HBlk.out.cell 1
          by_cases he : se = 0
          · have HE0 : Hid (sE o zl l k = 0) := Lib.hid (by rw [← HSE.out]; exact he)
            subst he
            by_cases hov : a < en
            · have HV : Hid (ve = 1) := Lib.hid (by
                rw [Hve.out]
                unfold vE
                rw [if_neg (by rw [← hn.out]; exact hlong), if_pos Hze.out.symm]
                cases k with
                | zero =>
                  have h0 := sA_nonneg (l := l) Hze.out.symm 0 HE0.out
                  have h1 : en = 0 := Hen.out
                  rw [← HSA.out] at h0
                  omega
                | succ k => exact vTo_err HL4.out.ok (vTo_over HL4.out.ok HE0.out (by omega) (by rw [← HSA.out]; have h1 : en = sB o zl l k := Hen.out; simpa [← h1] using hov)) (by decide) hkl)
              go_wp2
              go_ret
              exact ⟨ret_int HV.out.symm, HL4.out.bel⟩
            · have HN := Lib.hid (vTo_fine HL4.out.ok HE0.out (fun h => by
                obtain ⟨k', rfl⟩ : ∃ k', k = k' + 1 := ⟨k - 1, by omega⟩
                have h1 : en = sB o zl l k' := Hen.out
                have h2 := h.2
                rw [← HSA.out] at h2
                simp at h2
                omega))
              have HL5 : Hid (RVL o zl l w zA zn zc (k + 1) w4) := Lib.hid ⟨HN.out, HL4.out.zone, HL4.out.bel⟩
              go_wp2
              go_roundw
              case rel => exact ⟨k + 1, by omega, by go_num, by rw [HSB.out]; rfl, HL5.out⟩
              case measure => simp [intOf]; omega
          · have he1 : (se == 0) = false := by simpa using he
            have HV : Hid (ve = se) := Lib.hid (by
              rw [Hve.out]
              unfold vE
              rw [if_neg (by rw [← hn.out]; exact hlong), if_pos Hze.out.symm]
              exact vTo_err HL4.out.ok (by rw [vTo_span HL4.out.ok (by rw [← HSE.out]; exact he), HSE.out]) he hkl)
            clear he
            go_wp2
            go_ret
            exact ⟨ret_int HV.out.symm, HL4.out.bel⟩
        · obtain rfl : k = n := by omega
          have HV : Hid (ve = 0) := Lib.hid (by rw [HVv.out]; exact HL.out.ok)
          go_wp2
          go_ret
          exact ⟨ret_int HV.out.symm, HL.out.bel⟩
    · have hz1 : (ze == 0) = false := by simpa using hz0
      have HV : Hid (ve = ze) := Lib.hid (by rw [Hve.out]; unfold vE; rw [if_neg (by rw [← hn.out]; exact hlong), if_neg (by rw [← Hze.out]; exact hz0), Hze.out])
      clear hz0
      go_enter Try.func15, Try.ntmps15
      go_wp2_with fail
      refine (rvalid_at hzn Hze (rdP_up HZ (HB0.out _)) HZL).mono ?_
      rintro e w1 ⟨rfl, hb1⟩
      have HB1 := Lib.hid hb1
      clear hb1
      go_wp2
      go_ret
      exact ⟨ret_int HV.out.symm, (HB0.out _).trans (HB1.out.mono (by simp))⟩
end Go.Proofs.Ytagkdkkpgcolkaa
