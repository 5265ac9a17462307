/-
  Chapter 30: the walk of the law WithholdingYear.
-/
import Derived.Test.YtcincmlpegnaiaaWh13
import Derived.Test.YtcincmlpegnaiaaOpen
namespace Go.Proofs.Ytcincmlpegnaiaa
open Go.RowKit
set_option linter.unusedVariables false
set_option linter.unusedSimpArgs false

theorem yrL_len {t : TF} {c : Int} {xs : List Int} (h : xs.length ≤ 60) : (yrL t c xs).length ≤ 60 := by
  unfold yrL
  split
  · rw [yrTo_len]; exact h
  · simp
set_option maxHeartbeats 3200000 in
set_option maxRecDepth 100000 in
theorem withholdingYear_walk (A0 : Option Addr) (c0 : Nat) (l0 : List Int) (Aw : Option Addr) (cw : Nat) (lw : List Int) (cnt : Int) (w : World) (hr0 : RdI w w.heap.size A0 l0) (hl0 : l0.length ≤ 9223372036854775807) (hb0 : ∀ i, i < l0.length → InR (at1 l0 i)) (hrw : RdI w w.heap.size Aw lw) (hlw : lw.length ≤ 9223372036854775807) (hbw : ∀ i, i < lw.length → InR (at1 lw i)) (hcnt : InR cnt) :
    Calls Try.prog 5 #[.slice A0 l0.length c0, .slice Aw lw.length cw, .int .i64 cnt] w (RetB true w) := by
  have HRW := Lib.hid hrw
  clear hb0 hbw hrw hcnt
  rcases bool_cases ((60 : Int) < (lw.length : Int)) with t1 | t1
  · go_enter Try.func5, Try.ntmps5
    go_wp2_with fail
    refine (awake_any _).mono ?_
    rintro e w9 ⟨rfl, hb9⟩
    have HB9 := Lib.hid hb9
    clear hb9
    go_wp2
    go_ret
    exact ⟨rfl, HB9.out⟩
  have hlw60 : lw.length ≤ 60 := by simp at t1; omega
  go_enter Try.func5, Try.ntmps5
  go_wp2_with fail
  refine (new_any A0 c0 l0 w hr0 hl0).mono ?_
  rintro e w1 ⟨rfl, hb1, hD1, hs1⟩
  have HB1 := Lib.hid hb1
  have HD1 := Lib.hid hD1
  clear hb1 hD1 hr0
  go_wp2_with fail
  refine (tariff3_any w.heap.size 0 _ HD1.out (by omega)).mono ?_
  rintro e w2 ⟨t, L, rfl, hv, hrt, hna, hnr, ho, hD2⟩
  have HLW := Lib.hid (LW.start HB1.out hs1 ho hD2 hrt hna hnr)
  have HV := Lib.hid hv
  have hw2 : w.heap.size < w2.heap.size := by have := ho.size; omega
  clear hv hrt hna hnr ho hD2 HB1 HD1
  clear t1
  go_wp2_with fail
  refine (next_any w.heap.size (0 + 40) 6 _ HLW.out.deck (by omega) (by omega) (by omega)).mono ?_
  rintro e w3 ⟨v3, rfl, hv3, ho, hD'⟩
  have HLW := Lib.hid (HLW.out.draw ho hD')
  clear ho hD'
  obtain ⟨n, rfl⟩ : ∃ n : Nat, v3 = (n : Int) := ⟨v3.toNat, by omega⟩
  go_wp2_with fail
  have hg3 := HLW.out.deck.lt
  refine (bases_any n (by omega) w.heap.size (0 + 40 + 1) _ HLW.out.deck (by omega)).mono ?_
  rintro e w4 ⟨Ax, nx, xl, rfl, hxl, hxa, hown, ho, hD'⟩
  have HLW := Lib.hid (HLW.out.draw ho hD')
  have HOW := Lib.hid hown
  have hxl60 : xl.length ≤ 60 := by omega
  clear hxl hxa hown ho hD'
  go_wp2_with fail
  refine (pick_new w.heap.size (0 + 40 + 1 + 5 * n) [12, 4, 5, 53] _ 3 4 HLW.out.deck (by omega) (by decide) (by decide)).mono ?_
  rintro e w5 ⟨c, rfl, hx, ho, hD'⟩
  have HLW := Lib.hid (HLW.out.draw ho hD')
  have HX := Lib.hid (own_rdI (ownI_only HOW.out ho hg3))
  have HRW : Hid (∀ W, LW w w.heap.size (0 + 40 + 1 + 5 * n + 1) w2.heap.size t L W → RdI W W.heap.size Aw lw) := Lib.hid (fun W h => Rd.more (HRW.out.below h.below) h.below.size)
  clear hx ho hD' HOW hg3
  have x0 := HLW.out.box.cell 0
  have x1 := HLW.out.box.cell 1
  have x2 := HLW.out.box.cell 2
  have x3 := HLW.out.box.cell 3
  have x4 := HLW.out.box.cell 4
  have x5 := HLW.out.box.cell 5
  have x6 := HLW.out.box.cell 6
  simp at x0 x1 x2 x3 x4 x5 x6
  go_wp2_with fail
  refine (year_any t L _ HLW.out.rd c Ax nx xl HX.out (by omega)).mono ?_
  rintro e w6 ⟨A6, n6, rfl, hb, hr⟩
  have HLW := Lib.hid (HLW.out.calc_ hb)
  have HY1 := Lib.hid hr
  have HX := Lib.hid (prd_calc HX.out hb)
  clear hb hr x0 x1 x2 x3 x4 x5 x6
  have x0 := HLW.out.box.cell 0
  have x1 := HLW.out.box.cell 1
  have x2 := HLW.out.box.cell 2
  have x3 := HLW.out.box.cell 3
  have x4 := HLW.out.box.cell 4
  have x5 := HLW.out.box.cell 5
  have x6 := HLW.out.box.cell 6
  simp at x0 x1 x2 x3 x4 x5 x6
  go_wp2_with fail
  refine (ryear_any t L _ HLW.out.rd c Ax nx xl HX.out (by omega)).mono ?_
  rintro e w7 ⟨A7, n7, rfl, hb, hr⟩
  have HLW := Lib.hid (HLW.out.calc_ hb)
  have HY2 := Lib.hid hr
  have HX := Lib.hid (prd_calc HX.out hb)
  have HY1 := Lib.hid (prd_calc HY1.out hb)
  clear hb hr x0 x1 x2 x3 x4 x5 x6
  have x0 := HLW.out.box.cell 0
  have x1 := HLW.out.box.cell 1
  have x2 := HLW.out.box.cell 2
  have x3 := HLW.out.box.cell 3
  have x4 := HLW.out.box.cell 4
  have x5 := HLW.out.box.cell 5
  have x6 := HLW.out.box.cell 6
  simp at x0 x1 x2 x3 x4 x5 x6
  go_wp2_with fail
  refine (year_any t L _ HLW.out.rd cnt Aw cw lw (HRW.out _ HLW.out) hlw).mono ?_
  rintro e w10 ⟨A10, n10, rfl, hb, hr⟩
  have HLW := Lib.hid (HLW.out.calc_ hb)
  have HY3 := Lib.hid hr
  have HY1 := Lib.hid (prd_calc HY1.out hb)
  have HY2 := Lib.hid (prd_calc HY2.out hb)
  clear hb hr x0 x1 x2 x3 x4 x5 x6
  have x0 := HLW.out.box.cell 0
  have x1 := HLW.out.box.cell 1
  have x2 := HLW.out.box.cell 2
  have x3 := HLW.out.box.cell 3
  have x4 := HLW.out.box.cell 4
  have x5 := HLW.out.box.cell 5
  have x6 := HLW.out.box.cell 6
  simp at x0 x1 x2 x3 x4 x5 x6
  go_wp2_with fail
  refine (ryear_any t L _ HLW.out.rd cnt Aw cw lw (HRW.out _ HLW.out) hlw).mono ?_
  rintro e w11 ⟨A11, n11, rfl, hb, hr⟩
  have HLW := Lib.hid (HLW.out.calc_ hb)
  have HY4 := Lib.hid hr
  have HY1 := Lib.hid (prd_calc HY1.out hb)
  have HY2 := Lib.hid (prd_calc HY2.out hb)
  have HY3 := Lib.hid (prd_calc HY3.out hb)
  clear hb hr x0 x1 x2 x3 x4 x5 x6
  have hk1 := yrL_len (t := t) (c := c) hxl60
  have hk2 := yrL_len (t := t) (c := cnt) hlw60
  have he1 : (yrE t c xl == yrE t c xl) = true := by simp
  have he2 : (yrE t cnt lw == yrE t cnt lw) = true := by simp
  generalize yrE t c xl = E1 at *
  generalize yrE t cnt lw = E2 at *
  generalize yrL t c xl = K1 at *
  generalize yrL t cnt lw = K2 at *
  go_wp2_with fail
  refine (ints_eq _ _ _ _ _ _ HY1.out HY2.out (by omega)).mono ?_
  rintro e w8 ⟨rfl, hb⟩
  have HLW := Lib.hid (HLW.out.calc_ hb)
  have HY3 := Lib.hid (prd_calc HY3.out hb)
  have HY4 := Lib.hid (prd_calc HY4.out hb)
  clear hb
  go_wp2_with fail
  refine (ints_eq _ _ _ _ _ _ HY3.out HY4.out (by omega)).mono ?_
  rintro e w8 ⟨rfl, hb⟩
  have HLW := Lib.hid (HLW.out.calc_ hb)
  clear hb
  go_wp2_with fail
  refine (awake_any _).mono ?_
  rintro e w9 ⟨rfl, hb9⟩
  have HLW := Lib.hid (HLW.out.calc_ hb9)
  clear hb9
  go_wp2
  go_ret
  exact ⟨rfl, HLW.out.below⟩
end Go.Proofs.Ytcincmlpegnaiaa
