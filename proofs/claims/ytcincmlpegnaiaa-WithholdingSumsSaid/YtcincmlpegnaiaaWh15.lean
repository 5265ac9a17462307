/-
  Chapter 30: the walk of the law WithholdingPrefix.
-/
import Derived.Test.YtcincmlpegnaiaaWh13
import Derived.Test.YtcincmlpegnaiaaOpen
namespace Go.Proofs.Ytcincmlpegnaiaa
open Go.RowKit
set_option linter.unusedVariables false
set_option linter.unusedSimpArgs false

set_option maxHeartbeats 3200000 in
set_option maxRecDepth 100000 in
theorem withholdingPrefix_walk (A0 : Option Addr) (c0 : Nat) (l0 : List Int) (w : World) (hr0 : RdI w w.heap.size A0 l0) (hl0 : l0.length ≤ 9223372036854775807) (hb0 : ∀ i, i < l0.length → InR (at1 l0 i)) :
    Calls Try.prog 6 #[.slice A0 l0.length c0] w (RetB true w) := by
  clear hb0
  go_enter Try.func6, Try.ntmps6
  go_wp2_with fail
  refine (new_any A0 c0 l0 w hr0 hl0).mono ?_
  rintro e w1 ⟨rfl, hb1, hD1, hs1⟩
  have HB1 := Lib.hid hb1
  have HD1 := Lib.hid hD1
  clear hb1 hD1 hr0
  go_wp2_with fail
  refine (tariff3_any w.heap.size 0 _ HD1.out (by omega)).mono ?_
  rintro e w2 ⟨t, L, rfl, hv, hrt, hna, hnr, ho, hD2⟩
  have HLW := Lib.hid (LW.start HB1.out hs1 ho hD2 hrt hna hnr)
  have HV := Lib.hid hv
  have hw2 : w.heap.size < w2.heap.size := by have := ho.size; omega
  clear hv hrt hna hnr ho hD2 HB1 HD1
  go_wp2_with fail
  refine (pick_at w.heap.size (0 + 40) [12, 5] _ 3 2 _ (by simp) HLW.out.deck (by omega) (by decide) (by decide)).mono ?_
  rintro e w3 ⟨c, rfl, hx, ho, hD'⟩
  have HLW := Lib.hid (HLW.out.draw ho hD')
  obtain ⟨n, rfl⟩ : ∃ n : Nat, c = (n : Int) := ⟨c.toNat, by simp at hx; omega⟩
  have hn : 1 ≤ n ∧ n ≤ 12 := by simp at hx; omega
  clear hx ho hD'
  go_wp2_with fail
  have hg3 := HLW.out.deck.lt
  refine (bases_any n (by omega) w.heap.size (0 + 40 + 1) _ HLW.out.deck (by omega)).mono ?_
  rintro e w4 ⟨Ax, nx, xl, rfl, hxl, hxa, hown, ho, hD'⟩
  have HLW := Lib.hid (HLW.out.draw ho hD')
  have HX := Lib.hid (own_rdI hown)
  have HXL := Lib.hid hxl
  have HXA := Lib.hid hxa
  have hxl60 : xl.length ≤ 60 := by omega
  clear hxl hxa hown ho hD' hg3
  have x0 := HLW.out.box.cell 0
  have x1 := HLW.out.box.cell 1
  have x2 := HLW.out.box.cell 2
  have x3 := HLW.out.box.cell 3
  have x4 := HLW.out.box.cell 4
  have x5 := HLW.out.box.cell 5
  have x6 := HLW.out.box.cell 6
  simp at x0 x1 x2 x3 x4 x5 x6
  go_wp2_with fail
  refine (year_any t L _ HLW.out.rd (n : Int) Ax nx xl HX.out (by omega)).mono ?_
  rintro e w6 ⟨A6, n6, rfl, hb, hr⟩
  have HLW := Lib.hid (HLW.out.calc_ hb)
  have HY1 := Lib.hid hr
  have HX := Lib.hid (prd_calc HX.out hb)
  clear hb hr x0 x1 x2 x3 x4 x5 x6
  have hE : yrE t n xl = 0 := yr_ok HV.out ⟨by omega, by omega, by rw [HXL.out]; omega⟩ HXA.out
  have hK : yrL t n xl = yrTo t n xl n := by unfold yrL; rw [if_pos hE, HXL.out]
  have HAT : Hid (∀ i, i < n → at1 (yrL t n xl) i = dAt t n xl (i + 1) - dAt t n xl i) := Lib.hid (fun i hi => by rw [hK]; exact yrTo_at t n xl n i hi)
  have hkl : (yrL t n xl).length = n := by rw [hK, yrTo_len]
  have HALL : Hid (∀ k, k ≤ n → allA xl k) := Lib.hid (fun k hk i hi => HXA.out i (by have := HXL.out; omega))
  have HKL := Lib.hid hkl
  rw [hE]
  clear hE hK hkl
  generalize yrL t n xl = K at *
  have t1 : ((K.length : Int) != (n : Int)) = false := by rw [HKL.out]; simp
  go_wp2
  clear t1
  go_loopw [9, 10, 11, 12, 13, 14, 15] (fun v9 v10 i _ _ _ _ wr => ∃ k : Nat, k ≤ n ∧ i = .int .i64 k ∧ v9 = .int .i64 (totTo xl k) ∧ v10 = .int .i64 (dAt t n xl k) ∧ LW w w.heap.size (0 + 40 + 1 + 5 * n) w2.heap.size t L wr ∧ RdI wr wr.heap.size Ax xl ∧ RdI wr wr.heap.size A6 K) (fun _ _ i _ _ _ _ _ => n - (intOf i).toNat)
  case atStart => exact ⟨0, Nat.zero_le _, rfl, rfl, rfl, HLW.out, HX.out, HY1.out⟩
  case round =>
    obtain ⟨k, hk, rfl, rfl, rfl, hlw, hx, hy⟩ := hrel
    have HLW := Lib.hid hlw
    have HX := Lib.hid hx
    have HY1 := Lib.hid hy
    clear hlw hx hy
    by_cases hlt : k < n
    · have hkx : k < xl.length := by have := HXL.out; omega
      have hky : k < K.length := by have := HKL.out; omega
      obtain ⟨b, off, rfl, hb, e1⟩ := HX.out.at_ hkx
      obtain ⟨b', off', rfl, hb', e2⟩ := HY1.out.at_ hky
      have ht0 := tot_bd k (HALL.out k (by omega))
      have ht1 := tot_bd (k + 1) (HALL.out (k + 1) (by omega))
      have hd0 := dAt_bd (c := n) HV.out (by omega) (by omega) (k := k) (by omega) (HALL.out k (by omega))
      have hd1 := dAt_bd (c := n) HV.out (by omega) (by omega) (k := k + 1) (by omega) (HALL.out (k + 1) (by omega))
      have hat := HAT.out k hlt
      have hta := amt_iff.1 (HALL.out (k + 1) (by omega) k (by omega))
      have hp : dueP n ((k : Int) + 1) (totTo xl (k + 1)) := ⟨by omega, by omega, by omega, by omega, by omega, by omega⟩
      have hdx : dAt t n xl (k + 1) = dueX t n ((k : Int) + 1) (totTo xl (k + 1)) := by unfold dAt; rw [if_neg (by omega)]; simp
      have HDU : Hid (∀ W, RdT W W.heap.size L t → Calls Try.prog 21 #[.agg #[.int .i64 t.m, .slice L.Ab t.bk.length L.nb, .int .i64 t.al, .int .i64 t.cr, .int .i64 t.un, .int .i64 t.mo, .slice L.Ar t.rw.length L.nr], .int .i64 (n : Int), .int .i64 ((k : Int) + 1), .int .i64 (totTo xl k + at1 xl k)] W (RetII (dAt t n xl (k + 1)) 0 W)) := Lib.hid (fun W h => by
        have h1 := due_any t L W.heap.size W h (Nat.le_refl _) n ((k : Int) + 1) (totTo xl (k + 1))
        rw [show dueV t n ((k : Int) + 1) (totTo xl (k + 1)) = dAt t n xl (k + 1) from ((if_ok (c := 2) HV.out hp).1).trans hdx.symm, show dueE t n ((k : Int) + 1) (totTo xl (k + 1)) = 0 from (if_ok (x := dueX t n ((k : Int) + 1) (totTo xl (k + 1))) HV.out hp).2] at h1
        exact h1)
      have HCU : Hid (∀ W, RdT W W.heap.size L t → Calls Try.prog 23 #[.agg #[.int .i64 t.m, .slice L.Ab t.bk.length L.nb, .int .i64 t.al, .int .i64 t.cr, .int .i64 t.un, .int .i64 t.mo, .slice L.Ar t.rw.length L.nr], .int .i64 (n : Int), .int .i64 ((k : Int) + 1), .int .i64 (totTo xl k + at1 xl k), .int .i64 0] W (RetII (dAt t n xl (k + 1)) 0 W)) := Lib.hid (fun W h => by
        have h1 := cumulative_any t L W.heap.size W h (Nat.le_refl _) n ((k : Int) + 1) (totTo xl (k + 1)) 0
        have e0 : dueE t n ((k : Int) + 1) (totTo xl (k + 1)) = 0 := (if_ok (x := dueX t n ((k : Int) + 1) (totTo xl (k + 1))) HV.out hp).2
        have e1 : dueV t n ((k : Int) + 1) (totTo xl (k + 1)) = dAt t n xl (k + 1) := ((if_ok (c := 2) HV.out hp).1).trans hdx.symm
        have ev : cumV t n ((k : Int) + 1) (totTo xl (k + 1)) 0 = dAt t n xl (k + 1) := by
          unfold cumV
          rw [e0, e1, if_pos ⟨rfl, by simp [wtB]⟩, Int.sub_zero]
        have ee : cumE t n ((k : Int) + 1) (totTo xl (k + 1)) 0 = 0 := by
          unfold cumE
          rw [e0, if_pos rfl, if_pos (by simp [wtB])]
        rw [ev, ee] at h1
        exact h1)
      clear hp hdx
      have HT1 : Hid (totTo xl (k + 1) = totTo xl k + at1 xl k) := Lib.hid rfl
      rw [HT1.out] at ht1
      generalize hD1 : dAt t n xl (k + 1) = D1 at *
      have HD1 := Lib.hid hD1
      clear hD1
      generalize totTo xl k = T0 at *
      generalize dAt t n xl k = D0 at *
      generalize at1 xl k = X0 at *
      generalize at1 K k = Y0 at *
      have t2 : (D1 != D0 + Y0) = false := by simp; omega
      have t3 : (D1 != D1) = false := by simp
      have hs : D0 + Y0 = D1 := by omega
      have HS := Lib.hid hs
      have hk1 : (0 : Int) ≤ (k : Int) := by omega
      have hk2 : (k : Int) < (xl.length : Int) := by omega
      have hk3 : (k : Int) < (K.length : Int) := by omega
      have HI : Hid (IntKind.i64.wrap (T0 + X0) = T0 + X0 ∧ IntKind.i64.wrap (D0 + Y0) = D0 + Y0) := Lib.hid ⟨IntWalk.i64_in (T0 + X0) (by omega), IntWalk.i64_in (D0 + Y0) (by omega)⟩
      clear hs hat
      go_wp2
      obtain ⟨i1, i2⟩ := HI.out
      clear HI
      go_quiet (fail)
      have HLW := Lib.hid (HLW.out.calc_ (below_drewN (Below.refl _ _) nq))
      have HX := Lib.hid (prd_calc HX.out (below_drewN (Below.refl _ _) nq))
      have HY1 := Lib.hid (prd_calc HY1.out (below_drewN (Below.refl _ _) nq))
      clear i1 i2 e1 e2
      have x0 := HLW.out.box.cell 0
      have x1 := HLW.out.box.cell 1
      have x2 := HLW.out.box.cell 2
      have x3 := HLW.out.box.cell 3
      have x4 := HLW.out.box.cell 4
      have x5 := HLW.out.box.cell 5
      have x6 := HLW.out.box.cell 6
      simp at x0 x1 x2 x3 x4 x5 x6
      go_wp2_with fail
      refine (HDU.out _ HLW.out.rd).mono ?_
      rintro e w7 ⟨rfl, hb7⟩
      have HLW := Lib.hid (HLW.out.calc_ hb7)
      have HX := Lib.hid (prd_calc HX.out hb7)
      have HY1 := Lib.hid (prd_calc HY1.out hb7)
      clear hb7 x0 x1 x2 x3 x4 x5 x6
      have x0 := HLW.out.box.cell 0
      have x1 := HLW.out.box.cell 1
      have x2 := HLW.out.box.cell 2
      have x3 := HLW.out.box.cell 3
      have x4 := HLW.out.box.cell 4
      have x5 := HLW.out.box.cell 5
      have x6 := HLW.out.box.cell 6
      simp at x0 x1 x2 x3 x4 x5 x6
      go_wp2_with fail
      refine (HCU.out _ HLW.out.rd).mono ?_
      rintro e w8 ⟨rfl, hb8⟩
      have HLW := Lib.hid (HLW.out.calc_ hb8)
      have HX := Lib.hid (prd_calc HX.out hb8)
      have HY1 := Lib.hid (prd_calc HY1.out hb8)
      clear hb8 x0 x1 x2 x3 x4 x5 x6
      go_wp2
      go_roundw
      case rel => exact ⟨k + 1, by omega, by go_num, by rw [HT1.out], by rw [HD1.out, HS.out], HLW.out, HX.out, HY1.out⟩
      case measure => simp [intOf]; omega
    · obtain rfl : k = n := by omega
      go_wp2_with fail
      refine (awake_any _).mono ?_
      rintro e w9 ⟨rfl, hb9⟩
      have HLW := Lib.hid (HLW.out.calc_ hb9)
      clear hb9
      go_wp2
      go_ret
      exact ⟨rfl, HLW.out.below⟩

end Go.Proofs.Ytcincmlpegnaiaa
