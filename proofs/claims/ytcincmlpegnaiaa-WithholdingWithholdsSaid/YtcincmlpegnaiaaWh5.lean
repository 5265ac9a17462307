/-
  Chapter 30: Annual and Formula of both packages.
-/
import Derived.Test.YtcincmlpegnaiaaWh4
namespace Go.Proofs.Ytcincmlpegnaiaa
open Go.RowKit
set_option linter.unusedVariables false
set_option linter.unusedSimpArgs false

set_option maxHeartbeats 3200000 in
theorem annual_any (t : TF) (L : TL) (B : Nat) (w : World) (hr : RdT w B L t) (hB : B ≤ w.heap.size) (inc : Int) : Calls Try.prog 32 #[.agg #[.int .i64 t.m, .slice L.Ab t.bk.length L.nb, .int .i64 t.al, .int .i64 t.cr, .int .i64 t.un, .int .i64 t.mo, .slice L.Ar t.rw.length L.nr], .int .i64 inc] w (RetII (annV t inc) (annE t inc) w) := by
  have HVA : Hid (∀ W, BX w #[.int .i64 t.m, .slice L.Ab t.bk.length L.nb, .int .i64 t.al, .int .i64 t.cr, .int .i64 t.un, .int .i64 t.mo, .slice L.Ar t.rw.length L.nr] W → Calls Try.prog 40 #[.agg #[.int .i64 t.m, .slice L.Ab t.bk.length L.nb, .int .i64 t.al, .int .i64 t.cr, .int .i64 t.un, .int .i64 t.mo, .slice L.Ar t.rw.length L.nr]] W (RetB (tvB t) W)) := Lib.hid (fun W h => wvalid_any t L w.heap.size W ((hr.more hB).below h.below) h.below.size)
  have HRT : Hid (∀ W, BX w #[.int .i64 t.m, .slice L.Ab t.bk.length L.nb, .int .i64 t.al, .int .i64 t.cr, .int .i64 t.un, .int .i64 t.mo, .slice L.Ar t.rw.length L.nr] W → RdT W W.heap.size L t) := Lib.hid (fun W h => ((hr.more hB).below h.below).more h.below.size)
  have HBX := Lib.hid (BX.start w #[.int .i64 t.m, .slice L.Ab t.bk.length L.nb, .int .i64 t.al, .int .i64 t.cr, .int .i64 t.un, .int .i64 t.mo, .slice L.Ar t.rw.length L.nr])
  have hlb := hr.lb
  clear hr
  have HB1 : Hid (tvB t = false → annV t inc = 0 ∧ annE t inc = 1) := Lib.hid (fun h => if_bad h)
  have HB2 : Hid (tvB t = true → ¬ annP inc → annV t inc = 0 ∧ annE t inc = 2) := Lib.hid (fun h hp => if_range h hp)
  have HB3 : Hid (tvB t = true → annP inc → annV t inc = annX t inc ∧ annE t inc = 0) := Lib.hid (fun h hp => if_ok h hp)
  have HTV : Hid (tvB t = true → Val t.bk ∧ 0 ≤ t.al ∧ t.al ≤ 1000000000 ∧ 0 ≤ t.cr ∧ t.cr ≤ 1000000000 ∧ 1 ≤ t.un ∧ t.un ≤ 100 ∧ 0 ≤ t.mo ∧ t.mo ≤ 6) := Lib.hid tv_facts
  generalize tvB t = vb at *
  cases vb
  · have HN := Lib.hid (HB1.out rfl)
    clear HB1 HB2 HB3 HTV
    go_enter Try.func32, Try.ntmps32
    go_wp2_with fail
    refine (HVA.out _ HBX.out).mono ?_
    rintro e w1 ⟨rfl, hb⟩
    have HBX := Lib.hid (HBX.out.calc_ hb)
    clear hb
    go_wp2
    go_ret2
    exact retII_of HN.out.1.symm HN.out.2.symm HBX.out.below
  · have HB2 := Lib.hid (HB2.out rfl)
    have HB3 := Lib.hid (HB3.out rfl)
    have HTV := Lib.hid (HTV.out rfl)
    clear HB1
    rcases bool_cases (inc < 0) with t0 | t0
    · have HN := Lib.hid (HB2.out (by simp at t0; omega))
      clear HB2 HB3 HTV
      go_enter Try.func32, Try.ntmps32
      go_wp2_with fail
      refine (HVA.out _ HBX.out).mono ?_
      rintro e w1 ⟨rfl, hb⟩
      have HBX := Lib.hid (HBX.out.calc_ hb)
      clear hb
      go_wp2
      go_ret2
      exact retII_of HN.out.1.symm HN.out.2.symm HBX.out.below
    rcases bool_cases (1000000000000 < inc) with t1 | t1
    · have HN := Lib.hid (HB2.out (by simp at t1; omega))
      clear HB2 HB3 HTV
      go_enter Try.func32, Try.ntmps32
      go_wp2_with fail
      refine (HVA.out _ HBX.out).mono ?_
      rintro e w1 ⟨rfl, hb⟩
      have HBX := Lib.hid (HBX.out.calc_ hb)
      clear hb
      go_wp2
      go_ret2
      exact retII_of HN.out.1.symm HN.out.2.symm HBX.out.below
    have hp : annP inc := by simp at t0 t1; omega
    have HN := Lib.hid (HB3.out hp)
    clear HB2 HB3
    obtain ⟨f1, f2, f3, f4, f5, f6, f7, f8, f9⟩ := HTV.out
    have HF1 := Lib.hid f1
    clear HTV f1
    obtain ⟨g1, _, g3, g4⟩ := tax_facts (n := max (inc - t.al) 0) (un := t.un) (mo := t.mo) HF1.out (by omega) (by omega) f6 f7 f8 f9
    have HTO : Hid (∀ W, BX w #[.int .i64 t.m, .slice L.Ab t.bk.length L.nb, .int .i64 t.al, .int .i64 t.cr, .int .i64 t.un, .int .i64 t.mo, .slice L.Ar t.rw.length L.nr] W → Calls Try.prog 48 #[.agg #[.int .i64 t.m, .slice L.Ab t.bk.length L.nb, .int .i64 t.al, .int .i64 t.cr, .int .i64 t.un, .int .i64 t.mo, .slice L.Ar t.rw.length L.nr], .int .i64 (inc)] W (RetII (txV t.bk t.un t.mo t.al t.cr (inc)) 0 W)) := Lib.hid (fun W h => taxOf_any t L W.heap.size W (HRT.out W h) (Nat.le_refl _) (inc) (by omega) (by omega) f2 f3 f4 f5 g1 g3 (by omega))
    clear g1 g3 g4
    go_enter Try.func32, Try.ntmps32
    go_wp2_with fail
    refine (HVA.out _ HBX.out).mono ?_
    rintro e w1 ⟨rfl, hb⟩
    have HBX := Lib.hid (HBX.out.calc_ hb)
    clear hb
    have x0 := HBX.out.box.cell 0
    have x1 := HBX.out.box.cell 1
    have x2 := HBX.out.box.cell 2
    have x3 := HBX.out.box.cell 3
    have x4 := HBX.out.box.cell 4
    have x5 := HBX.out.box.cell 5
    have x6 := HBX.out.box.cell 6
    simp at x0 x1 x2 x3 x4 x5 x6
    go_wp2_with fail
    refine (HTO.out _ HBX.out).mono ?_
    rintro e w6 ⟨rfl, hb⟩
    have HBX := Lib.hid (HBX.out.calc_ hb)
    clear hb
    have HN : Hid (annV t inc = txV t.bk t.un t.mo t.al t.cr inc ∧ annE t inc = 0) := HN
    go_wp2
    go_ret2
    exact retII_of HN.out.1.symm HN.out.2.symm HBX.out.below
set_option maxHeartbeats 3200000 in
theorem rannual_any (t : TF) (L : TL) (B : Nat) (w : World) (hr : RdT w B L t) (hB : B ≤ w.heap.size) (inc : Int) : Calls Try.prog 33 #[.agg #[.int .i64 t.m, .slice L.Ab t.bk.length L.nb, .int .i64 t.al, .int .i64 t.cr, .int .i64 t.un, .int .i64 t.mo, .slice L.Ar t.rw.length L.nr], .int .i64 inc] w (RetII (annV t inc) (annE t inc) w) := by
  have HVA : Hid (∀ W, BX w #[.int .i64 t.m, .slice L.Ab t.bk.length L.nb, .int .i64 t.al, .int .i64 t.cr, .int .i64 t.un, .int .i64 t.mo, .slice L.Ar t.rw.length L.nr] W → Calls Try.prog 44 #[.agg #[.int .i64 t.m, .slice L.Ab t.bk.length L.nb, .int .i64 t.al, .int .i64 t.cr, .int .i64 t.un, .int .i64 t.mo, .slice L.Ar t.rw.length L.nr]] W (RetB (tvB t) W)) := Lib.hid (fun W h => rvalid_any t L w.heap.size W ((hr.more hB).below h.below) h.below.size)
  have HRT : Hid (∀ W, BX w #[.int .i64 t.m, .slice L.Ab t.bk.length L.nb, .int .i64 t.al, .int .i64 t.cr, .int .i64 t.un, .int .i64 t.mo, .slice L.Ar t.rw.length L.nr] W → RdT W W.heap.size L t) := Lib.hid (fun W h => ((hr.more hB).below h.below).more h.below.size)
  have HBX := Lib.hid (BX.start w #[.int .i64 t.m, .slice L.Ab t.bk.length L.nb, .int .i64 t.al, .int .i64 t.cr, .int .i64 t.un, .int .i64 t.mo, .slice L.Ar t.rw.length L.nr])
  have hlb := hr.lb
  clear hr
  have HB1 : Hid (tvB t = false → annV t inc = 0 ∧ annE t inc = 1) := Lib.hid (fun h => if_bad h)
  have HB2 : Hid (tvB t = true → ¬ annP inc → annV t inc = 0 ∧ annE t inc = 2) := Lib.hid (fun h hp => if_range h hp)
  have HB3 : Hid (tvB t = true → annP inc → annV t inc = annX t inc ∧ annE t inc = 0) := Lib.hid (fun h hp => if_ok h hp)
  have HTV : Hid (tvB t = true → Val t.bk ∧ 0 ≤ t.al ∧ t.al ≤ 1000000000 ∧ 0 ≤ t.cr ∧ t.cr ≤ 1000000000 ∧ 1 ≤ t.un ∧ t.un ≤ 100 ∧ 0 ≤ t.mo ∧ t.mo ≤ 6) := Lib.hid tv_facts
  generalize tvB t = vb at *
  cases vb
  · have HN := Lib.hid (HB1.out rfl)
    clear HB1 HB2 HB3 HTV
    go_enter Try.func33, Try.ntmps33
    go_wp2_with fail
    refine (HVA.out _ HBX.out).mono ?_
    rintro e w1 ⟨rfl, hb⟩
    have HBX := Lib.hid (HBX.out.calc_ hb)
    clear hb
    go_wp2
    go_ret2
    exact retII_of HN.out.1.symm HN.out.2.symm HBX.out.below
  · have HB2 := Lib.hid (HB2.out rfl)
    have HB3 := Lib.hid (HB3.out rfl)
    have HTV := Lib.hid (HTV.out rfl)
    clear HB1
    have HIN : Hid (∀ W, Calls Try.prog 45 #[.int .i64 inc, .int .i64 1000000000000] W (RetQ (inM inc 1000000000000) W)) := Lib.hid (fun W => in_any _ _ W)
    have c0 : inM inc 1000000000000 = true ↔ 0 ≤ inc ∧ inc ≤ 1000000000000 := by simp [amtB, inM]
    generalize inM inc 1000000000000 = cb0 at *
    cases cb0
    · have HN := Lib.hid (HB2.out (by intro hp; have := c0.2 (by omega); cases this))
      clear HB2 HB3 HTV c0
      go_enter Try.func33, Try.ntmps33
      go_wp2_with fail
      refine (HVA.out _ HBX.out).mono ?_
      rintro e w1 ⟨rfl, hb⟩
      have HBX := Lib.hid (HBX.out.calc_ hb)
      clear hb
      go_wp2_with fail
      refine (HIN.out _).mono ?_
      rintro e wc ⟨rfl, rfl⟩
      go_wp2
      go_ret2
      exact retII_of HN.out.1.symm HN.out.2.symm HBX.out.below
    replace c0 := c0.1 rfl
    have hp : annP inc := by omega
    have HN := Lib.hid (HB3.out hp)
    clear HB2 HB3
    obtain ⟨f1, f2, f3, f4, f5, f6, f7, f8, f9⟩ := HTV.out
    have HF1 := Lib.hid f1
    clear HTV f1
    obtain ⟨g1, _, g3, g4⟩ := tax_facts (n := max (inc - t.al) 0) (un := t.un) (mo := t.mo) HF1.out (by omega) (by omega) f6 f7 f8 f9
    have HTO : Hid (∀ W, BX w #[.int .i64 t.m, .slice L.Ab t.bk.length L.nb, .int .i64 t.al, .int .i64 t.cr, .int .i64 t.un, .int .i64 t.mo, .slice L.Ar t.rw.length L.nr] W → Calls Try.prog 50 #[.agg #[.int .i64 t.m, .slice L.Ab t.bk.length L.nb, .int .i64 t.al, .int .i64 t.cr, .int .i64 t.un, .int .i64 t.mo, .slice L.Ar t.rw.length L.nr], .slice L.Ab t.bk.length L.nb, .int .i64 t.al, .int .i64 t.cr, .int .i64 (inc)] W (RetI (txV t.bk t.un t.mo t.al t.cr (inc)) W)) := Lib.hid (fun W h => taxR_any t L t.bk L.Ab L.nb t.al t.cr W.heap.size W (HRT.out W h).b (Nat.le_refl _) hlb (inc) (by omega) (by omega) f2 f3 f4 f5 g1 g3 (by omega))
    clear g1 g3 g4
    go_enter Try.func33, Try.ntmps33
    go_wp2_with fail
    refine (HVA.out _ HBX.out).mono ?_
    rintro e w1 ⟨rfl, hb⟩
    have HBX := Lib.hid (HBX.out.calc_ hb)
    clear hb
    go_wp2_with fail
    refine (HIN.out _).mono ?_
    rintro e wc ⟨rfl, rfl⟩
    have x0 := HBX.out.box.cell 0
    have x1 := HBX.out.box.cell 1
    have x2 := HBX.out.box.cell 2
    have x3 := HBX.out.box.cell 3
    have x4 := HBX.out.box.cell 4
    have x5 := HBX.out.box.cell 5
    have x6 := HBX.out.box.cell 6
    simp at x0 x1 x2 x3 x4 x5 x6
    go_wp2_with fail
    refine (HTO.out _ HBX.out).mono ?_
    rintro e w6 ⟨rfl, hb⟩
    have HBX := Lib.hid (HBX.out.calc_ hb)
    clear hb
    have HN : Hid (annV t inc = txV t.bk t.un t.mo t.al t.cr inc ∧ annE t inc = 0) := HN
    go_wp2
    go_ret2
    exact retII_of HN.out.1.symm HN.out.2.symm HBX.out.below
set_option maxHeartbeats 3200000 in
theorem formula_any (t : TF) (L : TL) (B : Nat) (w : World) (hr : RdT w B L t) (hB : B ≤ w.heap.size) (inc c : Int) : Calls Try.prog 34 #[.agg #[.int .i64 t.m, .slice L.Ab t.bk.length L.nb, .int .i64 t.al, .int .i64 t.cr, .int .i64 t.un, .int .i64 t.mo, .slice L.Ar t.rw.length L.nr], .int .i64 inc, .int .i64 c] w (RetII (frmV t inc c) (frmE t inc c) w) := by
  have HVA : Hid (∀ W, BX w #[.int .i64 t.m, .slice L.Ab t.bk.length L.nb, .int .i64 t.al, .int .i64 t.cr, .int .i64 t.un, .int .i64 t.mo, .slice L.Ar t.rw.length L.nr] W → Calls Try.prog 40 #[.agg #[.int .i64 t.m, .slice L.Ab t.bk.length L.nb, .int .i64 t.al, .int .i64 t.cr, .int .i64 t.un, .int .i64 t.mo, .slice L.Ar t.rw.length L.nr]] W (RetB (tvB t) W)) := Lib.hid (fun W h => wvalid_any t L w.heap.size W ((hr.more hB).below h.below) h.below.size)
  have HRT : Hid (∀ W, BX w #[.int .i64 t.m, .slice L.Ab t.bk.length L.nb, .int .i64 t.al, .int .i64 t.cr, .int .i64 t.un, .int .i64 t.mo, .slice L.Ar t.rw.length L.nr] W → RdT W W.heap.size L t) := Lib.hid (fun W h => ((hr.more hB).below h.below).more h.below.size)
  have HBX := Lib.hid (BX.start w #[.int .i64 t.m, .slice L.Ab t.bk.length L.nb, .int .i64 t.al, .int .i64 t.cr, .int .i64 t.un, .int .i64 t.mo, .slice L.Ar t.rw.length L.nr])
  have hlb := hr.lb
  clear hr
  have HB1 : Hid (tvB t = false → frmV t inc c = 0 ∧ frmE t inc c = 1) := Lib.hid (fun h => if_bad h)
  have HB2 : Hid (tvB t = true → ¬ frmP inc c → frmV t inc c = 0 ∧ frmE t inc c = 2) := Lib.hid (fun h hp => if_range h hp)
  have HB3 : Hid (tvB t = true → frmP inc c → frmV t inc c = frmX t inc c ∧ frmE t inc c = 0) := Lib.hid (fun h hp => if_ok h hp)
  have HTV : Hid (tvB t = true → Val t.bk ∧ 0 ≤ t.al ∧ t.al ≤ 1000000000 ∧ 0 ≤ t.cr ∧ t.cr ≤ 1000000000 ∧ 1 ≤ t.un ∧ t.un ≤ 100 ∧ 0 ≤ t.mo ∧ t.mo ≤ 6) := Lib.hid tv_facts
  generalize tvB t = vb at *
  cases vb
  · have HN := Lib.hid (HB1.out rfl)
    clear HB1 HB2 HB3 HTV
    go_enter Try.func34, Try.ntmps34
    go_wp2_with fail
    refine (HVA.out _ HBX.out).mono ?_
    rintro e w1 ⟨rfl, hb⟩
    have HBX := Lib.hid (HBX.out.calc_ hb)
    clear hb
    go_wp2
    go_ret2
    exact retII_of HN.out.1.symm HN.out.2.symm HBX.out.below
  · have HB2 := Lib.hid (HB2.out rfl)
    have HB3 := Lib.hid (HB3.out rfl)
    have HTV := Lib.hid (HTV.out rfl)
    clear HB1
    have HIN : Hid (∀ W, Calls Try.prog 41 #[.int .i64 inc] W (RetQ (amtB inc) W)) := Lib.hid (fun W => isAmount_any _ W)
    have c0 : amtB inc = true ↔ 0 ≤ inc ∧ inc ≤ 1000000000 := by simp [amtB, inM]
    generalize amtB inc = cb0 at *
    cases cb0
    · have HN := Lib.hid (HB2.out (by intro hp; have := c0.2 (by omega); cases this))
      clear HB2 HB3 HTV c0
      go_enter Try.func34, Try.ntmps34
      go_wp2_with fail
      refine (HVA.out _ HBX.out).mono ?_
      rintro e w1 ⟨rfl, hb⟩
      have HBX := Lib.hid (HBX.out.calc_ hb)
      clear hb
      go_wp2_with fail
      refine (HIN.out _).mono ?_
      rintro e wc ⟨rfl, rfl⟩
      go_wp2
      go_ret2
      exact retII_of HN.out.1.symm HN.out.2.symm HBX.out.below
    replace c0 := c0.1 rfl
    rcases bool_cases (c < 1) with t1 | t1
    · have HN := Lib.hid (HB2.out (by simp at t1; omega))
      clear HB2 HB3 HTV
      go_enter Try.func34, Try.ntmps34
      go_wp2_with fail
      refine (HVA.out _ HBX.out).mono ?_
      rintro e w1 ⟨rfl, hb⟩
      have HBX := Lib.hid (HBX.out.calc_ hb)
      clear hb
      go_wp2_with fail
      refine (HIN.out _).mono ?_
      rintro e wc ⟨rfl, rfl⟩
      go_wp2
      go_ret2
      exact retII_of HN.out.1.symm HN.out.2.symm HBX.out.below
    rcases bool_cases (53 < c) with t2 | t2
    · have HN := Lib.hid (HB2.out (by simp at t2; omega))
      clear HB2 HB3 HTV
      go_enter Try.func34, Try.ntmps34
      go_wp2_with fail
      refine (HVA.out _ HBX.out).mono ?_
      rintro e w1 ⟨rfl, hb⟩
      have HBX := Lib.hid (HBX.out.calc_ hb)
      clear hb
      go_wp2_with fail
      refine (HIN.out _).mono ?_
      rintro e wc ⟨rfl, rfl⟩
      go_wp2
      go_ret2
      exact retII_of HN.out.1.symm HN.out.2.symm HBX.out.below
    have hp : frmP inc c := by simp at t1 t2; omega
    have HN := Lib.hid (HB3.out hp)
    clear HB2 HB3
    obtain ⟨f1, f2, f3, f4, f5, f6, f7, f8, f9⟩ := HTV.out
    have HF1 := Lib.hid f1
    clear HTV f1
    have hm0 : 0 ≤ inc * c := Int.mul_nonneg (by omega) (by omega)
    have hm1 : inc * c ≤ 1000000000 * 53 := Int.le_trans (Int.mul_le_mul_of_nonneg_right (by omega) (by omega)) (Int.mul_le_mul_of_nonneg_left (by omega) (by omega))
    have hx := tx_bd (al := t.al) (cr := t.cr) (inc := inc * c) (un := t.un) (mo := t.mo) HF1.out hm0 (by omega) f6 f7 f8 f9 f2 f4
    obtain ⟨g1, _, g3, g4⟩ := tax_facts (n := max (inc * c - t.al) 0) (un := t.un) (mo := t.mo) HF1.out (by omega) (by omega) f6 f7 f8 f9
    have HTO : Hid (∀ W, BX w #[.int .i64 t.m, .slice L.Ab t.bk.length L.nb, .int .i64 t.al, .int .i64 t.cr, .int .i64 t.un, .int .i64 t.mo, .slice L.Ar t.rw.length L.nr] W → Calls Try.prog 48 #[.agg #[.int .i64 t.m, .slice L.Ab t.bk.length L.nb, .int .i64 t.al, .int .i64 t.cr, .int .i64 t.un, .int .i64 t.mo, .slice L.Ar t.rw.length L.nr], .int .i64 (inc * c)] W (RetII (txV t.bk t.un t.mo t.al t.cr (inc * c)) 0 W)) := Lib.hid (fun W h => taxOf_any t L W.heap.size W (HRT.out W h) (Nat.le_refl _) (inc * c) (by omega) (by omega) f2 f3 f4 f5 g1 g3 (by omega))
    clear g1 g3 g4
    go_enter Try.func34, Try.ntmps34
    go_wp2_with fail
    refine (HVA.out _ HBX.out).mono ?_
    rintro e w1 ⟨rfl, hb⟩
    have HBX := Lib.hid (HBX.out.calc_ hb)
    clear hb
    go_wp2_with fail
    refine (HIN.out _).mono ?_
    rintro e wc ⟨rfl, rfl⟩
    have x0 := HBX.out.box.cell 0
    have x1 := HBX.out.box.cell 1
    have x2 := HBX.out.box.cell 2
    have x3 := HBX.out.box.cell 3
    have x4 := HBX.out.box.cell 4
    have x5 := HBX.out.box.cell 5
    have x6 := HBX.out.box.cell 6
    simp at x0 x1 x2 x3 x4 x5 x6
    go_wp2_with fail
    refine (HTO.out _ HBX.out).mono ?_
    rintro e w6 ⟨rfl, hb⟩
    have HBX := Lib.hid (HBX.out.calc_ hb)
    clear hb
    have HN : Hid (frmV t inc c = txV t.bk t.un t.mo t.al t.cr (inc * c) / c ∧ frmE t inc c = 0) := HN
    generalize txV t.bk t.un t.mo t.al t.cr (inc * c) = v at *
    go_wp2
    go_ret2
    exact retII_of HN.out.1.symm HN.out.2.symm HBX.out.below
set_option maxHeartbeats 3200000 in
theorem rformula_any (t : TF) (L : TL) (B : Nat) (w : World) (hr : RdT w B L t) (hB : B ≤ w.heap.size) (inc c : Int) : Calls Try.prog 35 #[.agg #[.int .i64 t.m, .slice L.Ab t.bk.length L.nb, .int .i64 t.al, .int .i64 t.cr, .int .i64 t.un, .int .i64 t.mo, .slice L.Ar t.rw.length L.nr], .int .i64 inc, .int .i64 c] w (RetII (frmV t inc c) (frmE t inc c) w) := by
  have HVA : Hid (∀ W, BX w #[.int .i64 t.m, .slice L.Ab t.bk.length L.nb, .int .i64 t.al, .int .i64 t.cr, .int .i64 t.un, .int .i64 t.mo, .slice L.Ar t.rw.length L.nr] W → Calls Try.prog 44 #[.agg #[.int .i64 t.m, .slice L.Ab t.bk.length L.nb, .int .i64 t.al, .int .i64 t.cr, .int .i64 t.un, .int .i64 t.mo, .slice L.Ar t.rw.length L.nr]] W (RetB (tvB t) W)) := Lib.hid (fun W h => rvalid_any t L w.heap.size W ((hr.more hB).below h.below) h.below.size)
  have HRT : Hid (∀ W, BX w #[.int .i64 t.m, .slice L.Ab t.bk.length L.nb, .int .i64 t.al, .int .i64 t.cr, .int .i64 t.un, .int .i64 t.mo, .slice L.Ar t.rw.length L.nr] W → RdT W W.heap.size L t) := Lib.hid (fun W h => ((hr.more hB).below h.below).more h.below.size)
  have HBX := Lib.hid (BX.start w #[.int .i64 t.m, .slice L.Ab t.bk.length L.nb, .int .i64 t.al, .int .i64 t.cr, .int .i64 t.un, .int .i64 t.mo, .slice L.Ar t.rw.length L.nr])
  have hlb := hr.lb
  clear hr
  have HB1 : Hid (tvB t = false → frmV t inc c = 0 ∧ frmE t inc c = 1) := Lib.hid (fun h => if_bad h)
  have HB2 : Hid (tvB t = true → ¬ frmP inc c → frmV t inc c = 0 ∧ frmE t inc c = 2) := Lib.hid (fun h hp => if_range h hp)
  have HB3 : Hid (tvB t = true → frmP inc c → frmV t inc c = frmX t inc c ∧ frmE t inc c = 0) := Lib.hid (fun h hp => if_ok h hp)
  have HTV : Hid (tvB t = true → Val t.bk ∧ 0 ≤ t.al ∧ t.al ≤ 1000000000 ∧ 0 ≤ t.cr ∧ t.cr ≤ 1000000000 ∧ 1 ≤ t.un ∧ t.un ≤ 100 ∧ 0 ≤ t.mo ∧ t.mo ≤ 6) := Lib.hid tv_facts
  generalize tvB t = vb at *
  cases vb
  · have HN := Lib.hid (HB1.out rfl)
    clear HB1 HB2 HB3 HTV
    go_enter Try.func35, Try.ntmps35
    go_wp2_with fail
    refine (HVA.out _ HBX.out).mono ?_
    rintro e w1 ⟨rfl, hb⟩
    have HBX := Lib.hid (HBX.out.calc_ hb)
    clear hb
    go_wp2
    go_ret2
    exact retII_of HN.out.1.symm HN.out.2.symm HBX.out.below
  · have HB2 := Lib.hid (HB2.out rfl)
    have HB3 := Lib.hid (HB3.out rfl)
    have HTV := Lib.hid (HTV.out rfl)
    clear HB1
    have HIN : Hid (∀ W, Calls Try.prog 45 #[.int .i64 inc, .int .i64 1000000000] W (RetQ (inM inc 1000000000) W)) := Lib.hid (fun W => in_any _ _ W)
    have c0 : inM inc 1000000000 = true ↔ 0 ≤ inc ∧ inc ≤ 1000000000 := by simp [amtB, inM]
    generalize inM inc 1000000000 = cb0 at *
    cases cb0
    · have HN := Lib.hid (HB2.out (by intro hp; have := c0.2 (by omega); cases this))
      clear HB2 HB3 HTV c0
      go_enter Try.func35, Try.ntmps35
      go_wp2_with fail
      refine (HVA.out _ HBX.out).mono ?_
      rintro e w1 ⟨rfl, hb⟩
      have HBX := Lib.hid (HBX.out.calc_ hb)
      clear hb
      go_wp2_with fail
      refine (HIN.out _).mono ?_
      rintro e wc ⟨rfl, rfl⟩
      go_wp2
      go_ret2
      exact retII_of HN.out.1.symm HN.out.2.symm HBX.out.below
    replace c0 := c0.1 rfl
    rcases bool_cases (c < 1) with t1 | t1
    · have HN := Lib.hid (HB2.out (by simp at t1; omega))
      clear HB2 HB3 HTV
      go_enter Try.func35, Try.ntmps35
      go_wp2_with fail
      refine (HVA.out _ HBX.out).mono ?_
      rintro e w1 ⟨rfl, hb⟩
      have HBX := Lib.hid (HBX.out.calc_ hb)
      clear hb
      go_wp2_with fail
      refine (HIN.out _).mono ?_
      rintro e wc ⟨rfl, rfl⟩
      go_wp2
      go_ret2
      exact retII_of HN.out.1.symm HN.out.2.symm HBX.out.below
    rcases bool_cases (53 < c) with t2 | t2
    · have HN := Lib.hid (HB2.out (by simp at t2; omega))
      clear HB2 HB3 HTV
      go_enter Try.func35, Try.ntmps35
      go_wp2_with fail
      refine (HVA.out _ HBX.out).mono ?_
      rintro e w1 ⟨rfl, hb⟩
      have HBX := Lib.hid (HBX.out.calc_ hb)
      clear hb
      go_wp2_with fail
      refine (HIN.out _).mono ?_
      rintro e wc ⟨rfl, rfl⟩
      go_wp2
      go_ret2
      exact retII_of HN.out.1.symm HN.out.2.symm HBX.out.below
    have hp : frmP inc c := by simp at t1 t2; omega
    have HN := Lib.hid (HB3.out hp)
    clear HB2 HB3
    obtain ⟨f1, f2, f3, f4, f5, f6, f7, f8, f9⟩ := HTV.out
    have HF1 := Lib.hid f1
    clear HTV f1
    have hm0 : 0 ≤ inc * c := Int.mul_nonneg (by omega) (by omega)
    have hm1 : inc * c ≤ 1000000000 * 53 := Int.le_trans (Int.mul_le_mul_of_nonneg_right (by omega) (by omega)) (Int.mul_le_mul_of_nonneg_left (by omega) (by omega))
    have hx := tx_bd (al := t.al) (cr := t.cr) (inc := inc * c) (un := t.un) (mo := t.mo) HF1.out hm0 (by omega) f6 f7 f8 f9 f2 f4
    obtain ⟨g1, _, g3, g4⟩ := tax_facts (n := max (inc * c - t.al) 0) (un := t.un) (mo := t.mo) HF1.out (by omega) (by omega) f6 f7 f8 f9
    have HTO : Hid (∀ W, BX w #[.int .i64 t.m, .slice L.Ab t.bk.length L.nb, .int .i64 t.al, .int .i64 t.cr, .int .i64 t.un, .int .i64 t.mo, .slice L.Ar t.rw.length L.nr] W → Calls Try.prog 50 #[.agg #[.int .i64 t.m, .slice L.Ab t.bk.length L.nb, .int .i64 t.al, .int .i64 t.cr, .int .i64 t.un, .int .i64 t.mo, .slice L.Ar t.rw.length L.nr], .slice L.Ab t.bk.length L.nb, .int .i64 t.al, .int .i64 t.cr, .int .i64 (inc * c)] W (RetI (txV t.bk t.un t.mo t.al t.cr (inc * c)) W)) := Lib.hid (fun W h => taxR_any t L t.bk L.Ab L.nb t.al t.cr W.heap.size W (HRT.out W h).b (Nat.le_refl _) hlb (inc * c) (by omega) (by omega) f2 f3 f4 f5 g1 g3 (by omega))
    clear g1 g3 g4
    go_enter Try.func35, Try.ntmps35
    go_wp2_with fail
    refine (HVA.out _ HBX.out).mono ?_
    rintro e w1 ⟨rfl, hb⟩
    have HBX := Lib.hid (HBX.out.calc_ hb)
    clear hb
    go_wp2_with fail
    refine (HIN.out _).mono ?_
    rintro e wc ⟨rfl, rfl⟩
    have x0 := HBX.out.box.cell 0
    have x1 := HBX.out.box.cell 1
    have x2 := HBX.out.box.cell 2
    have x3 := HBX.out.box.cell 3
    have x4 := HBX.out.box.cell 4
    have x5 := HBX.out.box.cell 5
    have x6 := HBX.out.box.cell 6
    simp at x0 x1 x2 x3 x4 x5 x6
    go_wp2_with fail
    refine (HTO.out _ HBX.out).mono ?_
    rintro e w6 ⟨rfl, hb⟩
    have HBX := Lib.hid (HBX.out.calc_ hb)
    clear hb
    have HN : Hid (frmV t inc c = txV t.bk t.un t.mo t.al t.cr (inc * c) / c ∧ frmE t inc c = 0) := HN
    generalize txV t.bk t.un t.mo t.al t.cr (inc * c) = v at *
    go_wp2
    go_ret2
    exact retII_of HN.out.1.symm HN.out.2.symm HBX.out.below

end Go.Proofs.Ytcincmlpegnaiaa
