/-
  Chapter 30: the walk of the law WithholdingDue.
-/
import Derived.Test.YtcincmlpegnaiaaWh18
import Derived.Test.YtcincmlpegnaiaaOpen
namespace Go.Proofs.Ytcincmlpegnaiaa
open Go.RowKit
set_option linter.unusedVariables false
set_option linter.unusedSimpArgs false

set_option maxHeartbeats 3200000 in
set_option maxRecDepth 100000 in
theorem withholdingDue_walk (A0 : Option Addr) (c0 : Nat) (l0 : List Int) (cnt k tot wh : Int) (w : World) (hr0 : RdI w w.heap.size A0 l0) (hl0 : l0.length ≤ 9223372036854775807) (hb0 : ∀ i, i < l0.length → InR (at1 l0 i)) (h1 : InR cnt) (h2 : InR k) (h3 : InR tot) (h4 : InR wh) :
    Calls Try.prog 4 #[.slice A0 l0.length c0, .int .i64 cnt, .int .i64 k, .int .i64 tot, .int .i64 wh] w (RetB true w) := by
  clear hb0
  go_enter Try.func4, Try.ntmps4
  clear h1 h2 h3 h4
  go_wp2_with fail
  refine (new_any A0 c0 l0 w hr0 hl0).mono ?_
  rintro e w1 ⟨rfl, hb1, hD1, hs1⟩
  have HB1 := Lib.hid hb1
  have HD1 := Lib.hid hD1
  clear hb1 hD1 hr0
  go_wp2_with fail
  refine (tariff0_any w.heap.size 0 _ HD1.out (by omega)).mono ?_
  rintro e w2 ⟨t, L, rfl, hv, hrt, hna, hnr, ho, hD2⟩
  have HLW := Lib.hid (LW.start HB1.out hs1 ho hD2 hrt hna hnr)
  have HV := Lib.hid hv
  have hw2 : w.heap.size < w2.heap.size := by have := ho.size; omega
  clear hv hrt hna hnr ho hD2 HB1 HD1
  go_wp2_with fail
  refine (pick_at w.heap.size (0 + 40) [12, 4, 53, 1] _ 3 4 _ (by simp) HLW.out.deck (by omega) (by decide) (by decide)).mono ?_
  rintro e w3 ⟨c, rfl, hx, ho, hD'⟩
  have HLW := Lib.hid (HLW.out.draw ho hD')
  have hc : 1 ≤ c ∧ c ≤ 53 := by simp at hx; omega
  clear hx ho hD'
  go_wp2_with fail
  refine (next_any w.heap.size (0 + 40 + 1) c _ HLW.out.deck (by omega) (by omega) (by omega)).mono ?_
  rintro e w4 ⟨v4, rfl, hv4, ho, hD'⟩
  have HLW := Lib.hid (HLW.out.draw ho hD')
  clear ho hD'
  go_wp2_with fail
  refine (small_any w.heap.size (0 + 40 + 1 + 1) _ HLW.out.deck (by omega)).mono ?_
  rintro e w5 ⟨v5, rfl, hv5, ho, hD'⟩
  have HLW := Lib.hid (HLW.out.draw ho hD')
  clear ho hD'
  have x0 := HLW.out.box.cell 0
  have x1 := HLW.out.box.cell 1
  have x2 := HLW.out.box.cell 2
  have x3 := HLW.out.box.cell 3
  have x4 := HLW.out.box.cell 4
  have x5 := HLW.out.box.cell 5
  have x6 := HLW.out.box.cell 6
  simp at x0 x1 x2 x3 x4 x5 x6
  go_wp2_with fail
  refine (due_any t L _ _ HLW.out.rd (Nat.le_refl _) c (1 + v4) (10 * v5)).mono ?_
  rintro e w6 ⟨rfl, hb⟩
  have HLW := Lib.hid (HLW.out.calc_ hb)
  clear hb x0 x1 x2 x3 x4 x5 x6
  have x0 := HLW.out.box.cell 0
  have x1 := HLW.out.box.cell 1
  have x2 := HLW.out.box.cell 2
  have x3 := HLW.out.box.cell 3
  have x4 := HLW.out.box.cell 4
  have x5 := HLW.out.box.cell 5
  have x6 := HLW.out.box.cell 6
  simp at x0 x1 x2 x3 x4 x5 x6
  go_wp2_with fail
  refine (rdue_any t L _ _ HLW.out.rd (Nat.le_refl _) c (1 + v4) (10 * v5)).mono ?_
  rintro e w7 ⟨rfl, hb⟩
  have HLW := Lib.hid (HLW.out.calc_ hb)
  clear hb x0 x1 x2 x3 x4 x5 x6
  have x0 := HLW.out.box.cell 0
  have x1 := HLW.out.box.cell 1
  have x2 := HLW.out.box.cell 2
  have x3 := HLW.out.box.cell 3
  have x4 := HLW.out.box.cell 4
  have x5 := HLW.out.box.cell 5
  have x6 := HLW.out.box.cell 6
  simp at x0 x1 x2 x3 x4 x5 x6
  go_wp2_with fail
  refine (cumulative_any t L _ _ HLW.out.rd (Nat.le_refl _) c (1 + v4) (10 * v5) wh).mono ?_
  rintro e w8 ⟨rfl, hb⟩
  have HLW := Lib.hid (HLW.out.calc_ hb)
  clear hb x0 x1 x2 x3 x4 x5 x6
  have x0 := HLW.out.box.cell 0
  have x1 := HLW.out.box.cell 1
  have x2 := HLW.out.box.cell 2
  have x3 := HLW.out.box.cell 3
  have x4 := HLW.out.box.cell 4
  have x5 := HLW.out.box.cell 5
  have x6 := HLW.out.box.cell 6
  simp at x0 x1 x2 x3 x4 x5 x6
  go_wp2_with fail
  refine (rcumulative_any t L _ _ HLW.out.rd (Nat.le_refl _) c (1 + v4) (10 * v5) wh).mono ?_
  rintro e w9 ⟨rfl, hb⟩
  have HLW := Lib.hid (HLW.out.calc_ hb)
  clear hb x0 x1 x2 x3 x4 x5 x6
  have x0 := HLW.out.box.cell 0
  have x1 := HLW.out.box.cell 1
  have x2 := HLW.out.box.cell 2
  have x3 := HLW.out.box.cell 3
  have x4 := HLW.out.box.cell 4
  have x5 := HLW.out.box.cell 5
  have x6 := HLW.out.box.cell 6
  simp at x0 x1 x2 x3 x4 x5 x6
  go_wp2_with fail
  refine (cumulative_any t L _ _ HLW.out.rd (Nat.le_refl _) cnt k tot wh).mono ?_
  rintro e w10 ⟨rfl, hb⟩
  have HLW := Lib.hid (HLW.out.calc_ hb)
  clear hb x0 x1 x2 x3 x4 x5 x6
  have x0 := HLW.out.box.cell 0
  have x1 := HLW.out.box.cell 1
  have x2 := HLW.out.box.cell 2
  have x3 := HLW.out.box.cell 3
  have x4 := HLW.out.box.cell 4
  have x5 := HLW.out.box.cell 5
  have x6 := HLW.out.box.cell 6
  simp at x0 x1 x2 x3 x4 x5 x6
  go_wp2_with fail
  refine (rcumulative_any t L _ _ HLW.out.rd (Nat.le_refl _) cnt k tot wh).mono ?_
  rintro e w11 ⟨rfl, hb⟩
  have HLW := Lib.hid (HLW.out.calc_ hb)
  clear hb x0 x1 x2 x3 x4 x5 x6
  have ha1 : (dueV t c (1 + v4) (10 * v5) == dueV t c (1 + v4) (10 * v5)) = true := by simp
  generalize dueV t c (1 + v4) (10 * v5) = a1 at *
  have ha2 : (dueE t c (1 + v4) (10 * v5) == dueE t c (1 + v4) (10 * v5)) = true := by simp
  generalize dueE t c (1 + v4) (10 * v5) = a2 at *
  have ha3 : (cumV t c (1 + v4) (10 * v5) wh == cumV t c (1 + v4) (10 * v5) wh) = true := by simp
  generalize cumV t c (1 + v4) (10 * v5) wh = a3 at *
  have ha4 : (cumE t c (1 + v4) (10 * v5) wh == cumE t c (1 + v4) (10 * v5) wh) = true := by simp
  generalize cumE t c (1 + v4) (10 * v5) wh = a4 at *
  have ha5 : (cumV t cnt k tot wh == cumV t cnt k tot wh) = true := by simp
  generalize cumV t cnt k tot wh = a5 at *
  have ha6 : (cumE t cnt k tot wh == cumE t cnt k tot wh) = true := by simp
  generalize cumE t cnt k tot wh = a6 at *
  go_wp2_with fail
  refine (awake_any _).mono ?_
  rintro e w9 ⟨rfl, hb9⟩
  have HLW := Lib.hid (HLW.out.calc_ hb9)
  clear hb9
  go_wp2
  go_ret
  exact ⟨rfl, HLW.out.below⟩
end Go.Proofs.Ytcincmlpegnaiaa
