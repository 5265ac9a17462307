/-
  Chapter 30: Due of the reference.
-/
import Derived.Deep.RegionHeld3
import Derived.Test.YtcincmlpegnaiaaWh6
namespace Go.Proofs.Ytcincmlpegnaiaa
open Go.RowKit
set_option linter.unusedVariables false
set_option linter.unusedSimpArgs false

set_option maxHeartbeats 3200000 in
theorem rdue_any (t : TF) (L : TL) (B : Nat) (w : World) (hr : RdT w B L t) (hB : B ≤ w.heap.size) (c k tot : Int) : Calls Try.prog 22 #[.agg #[.int .i64 t.m, .slice L.Ab t.bk.length L.nb, .int .i64 t.al, .int .i64 t.cr, .int .i64 t.un, .int .i64 t.mo, .slice L.Ar t.rw.length L.nr], .int .i64 c, .int .i64 k, .int .i64 tot] w (RetII (dueV t c k tot) (dueE t c k tot) w) := by
  have HVA : Hid (∀ W, BX w #[.int .i64 t.m, .slice L.Ab t.bk.length L.nb, .int .i64 t.al, .int .i64 t.cr, .int .i64 t.un, .int .i64 t.mo, .slice L.Ar t.rw.length L.nr] W → Calls Try.prog 44 #[.agg #[.int .i64 t.m, .slice L.Ab t.bk.length L.nb, .int .i64 t.al, .int .i64 t.cr, .int .i64 t.un, .int .i64 t.mo, .slice L.Ar t.rw.length L.nr]] W (RetB (tvB t) W)) := Lib.hid (fun W h => rvalid_any t L w.heap.size W ((hr.more hB).below h.below) h.below.size)
  have HRT : Hid (∀ W, BX w #[.int .i64 t.m, .slice L.Ab t.bk.length L.nb, .int .i64 t.al, .int .i64 t.cr, .int .i64 t.un, .int .i64 t.mo, .slice L.Ar t.rw.length L.nr] W → RdT W W.heap.size L t) := Lib.hid (fun W h => ((hr.more hB).below h.below).more h.below.size)
  have HBX := Lib.hid (BX.start w #[.int .i64 t.m, .slice L.Ab t.bk.length L.nb, .int .i64 t.al, .int .i64 t.cr, .int .i64 t.un, .int .i64 t.mo, .slice L.Ar t.rw.length L.nr])
  have hlb := hr.lb
  clear hr
  have HB1 : Hid (tvB t = false → dueV t c k tot = 0 ∧ dueE t c k tot = 1) := Lib.hid (fun h => if_bad h)
  have HB2 : Hid (tvB t = true → ¬ dueP c k tot → dueV t c k tot = 0 ∧ dueE t c k tot = 2) := Lib.hid (fun h hp => if_range h hp)
  have HB3 : Hid (tvB t = true → dueP c k tot → dueV t c k tot = dueX t c k tot ∧ dueE t c k tot = 0) := Lib.hid (fun h hp => if_ok h hp)
  have HTV : Hid (tvB t = true → Val t.bk ∧ 0 ≤ t.al ∧ t.al ≤ 1000000000 ∧ 0 ≤ t.cr ∧ t.cr ≤ 1000000000 ∧ 1 ≤ t.un ∧ t.un ≤ 100 ∧ 0 ≤ t.mo ∧ t.mo ≤ 6) := Lib.hid tv_facts
  generalize tvB t = vb at *
  cases vb
  · have HN := Lib.hid (HB1.out rfl)
    clear HB1 HB2 HB3 HTV
    go_enter Try.func22, Try.ntmps22
    go_wp2_with fail
    refine (HVA.out _ HBX.out).mono ?_
    rintro e w1 ⟨rfl, hb⟩
    have HBX := Lib.hid (HBX.out.calc_ hb)
    clear hb
    go_wp2
    go_ret2
    exact retII_of HN.out.1.symm HN.out.2.symm HBX.out.below
  · have HB2 := Lib.hid (HB2.out rfl)
    have HB3 := Lib.hid (HB3.out rfl)
    have HTV := Lib.hid (HTV.out rfl)
    clear HB1
    rcases bool_cases (c < 1) with t0 | t0
    · have HN := Lib.hid (HB2.out (by simp at t0; omega))
      clear HB2 HB3 HTV
      go_enter Try.func22, Try.ntmps22
      go_wp2_with fail
      refine (HVA.out _ HBX.out).mono ?_
      rintro e w1 ⟨rfl, hb⟩
      have HBX := Lib.hid (HBX.out.calc_ hb)
      clear hb
      go_wp2
      go_ret2
      exact retII_of HN.out.1.symm HN.out.2.symm HBX.out.below
    rcases bool_cases (53 < c) with t1 | t1
    · have HN := Lib.hid (HB2.out (by simp at t1; omega))
      clear HB2 HB3 HTV
      go_enter Try.func22, Try.ntmps22
      go_wp2_with fail
      refine (HVA.out _ HBX.out).mono ?_
      rintro e w1 ⟨rfl, hb⟩
      have HBX := Lib.hid (HBX.out.calc_ hb)
      clear hb
      go_wp2
      go_ret2
      exact retII_of HN.out.1.symm HN.out.2.symm HBX.out.below
    rcases bool_cases (k < 1) with t2 | t2
    · have HN := Lib.hid (HB2.out (by simp at t2; omega))
      clear HB2 HB3 HTV
      go_enter Try.func22, Try.ntmps22
      go_wp2_with fail
      refine (HVA.out _ HBX.out).mono ?_
      rintro e w1 ⟨rfl, hb⟩
      have HBX := Lib.hid (HBX.out.calc_ hb)
      clear hb
      go_wp2
      go_ret2
      exact retII_of HN.out.1.symm HN.out.2.symm HBX.out.below
    rcases bool_cases (c < k) with t3 | t3
    · have HN := Lib.hid (HB2.out (by simp at t3; omega))
      clear HB2 HB3 HTV
      go_enter Try.func22, Try.ntmps22
      go_wp2_with fail
      refine (HVA.out _ HBX.out).mono ?_
      rintro e w1 ⟨rfl, hb⟩
      have HBX := Lib.hid (HBX.out.calc_ hb)
      clear hb
      go_wp2
      go_ret2
      exact retII_of HN.out.1.symm HN.out.2.symm HBX.out.below
    have HIN : Hid (∀ W, Calls Try.prog 45 #[.int .i64 tot, .int .i64 1000000000000] W (RetQ (inM tot 1000000000000) W)) := Lib.hid (fun W => in_any _ _ W)
    have c4 : inM tot 1000000000000 = true ↔ 0 ≤ tot ∧ tot ≤ 1000000000000 := by simp [amtB, inM]
    generalize inM tot 1000000000000 = cb4 at *
    cases cb4
    · have HN := Lib.hid (HB2.out (by intro hp; have := c4.2 (by omega); cases this))
      clear HB2 HB3 HTV c4
      go_enter Try.func22, Try.ntmps22
      go_wp2_with fail
      refine (HVA.out _ HBX.out).mono ?_
      rintro e w1 ⟨rfl, hb⟩
      have HBX := Lib.hid (HBX.out.calc_ hb)
      clear hb
      go_wp2_with fail
      refine (HIN.out _).mono ?_
      rintro e wc ⟨rfl, rfl⟩
      go_wp2
      go_ret2
      exact retII_of HN.out.1.symm HN.out.2.symm HBX.out.below
    replace c4 := c4.1 rfl
    have hp : dueP c k tot := by simp at t0 t1 t2 t3; omega
    have HN := Lib.hid (HB3.out hp)
    clear HB2 HB3
    obtain ⟨f1, f2, f3, f4, f5, f6, f7, f8, f9⟩ := HTV.out
    have HF1 := Lib.hid f1
    clear HTV f1
    obtain ⟨sl, hsl⟩ : ∃ sl, sl = dd (sc t.bk k c) := ⟨_, rfl⟩
    have hsv : Val sl := by rw [hsl]; exact scale_val HF1.out (due_sc hp)
    have hs24 : sl.length ≤ 24 := hsv.2.1
    have hse := scale_ok HF1.out (due_sc hp)
    obtain ⟨ha0, ha1⟩ := part_bd (a := t.al) (k := k) (c := c) f2 (by omega) (by omega) (by omega)
    obtain ⟨hc0, hc1⟩ := part_bd (a := t.cr) (k := k) (c := c) f4 (by omega) (by omega) (by omega)
    have hm1 : 0 ≤ t.al * k := Int.mul_nonneg (by omega) (by omega)
    have hm2 : t.al * k ≤ 1000000000 * 53 := Int.le_trans (Int.mul_le_mul_of_nonneg_right f3 (by omega)) (Int.mul_le_mul_of_nonneg_left (by omega) (by omega))
    have hm3 : 0 ≤ t.cr * k := Int.mul_nonneg (by omega) (by omega)
    have hm4 : t.cr * k ≤ 1000000000 * 53 := Int.le_trans (Int.mul_le_mul_of_nonneg_right f5 (by omega)) (Int.mul_le_mul_of_nonneg_left (by omega) (by omega))
    have HN : Hid (dueV t c k tot = txV sl t.un t.mo (t.al * k / c) (t.cr * k / c) tot ∧ dueE t c k tot = 0) := Lib.hid (by rw [hsl]; exact HN.out)
    have HSC : Hid (∀ W, BX w #[.int .i64 t.m, .slice L.Ab t.bk.length L.nb, .int .i64 t.al, .int .i64 t.cr, .int .i64 t.un, .int .i64 t.mo, .slice L.Ar t.rw.length L.nr] W → Calls Try.prog 49 #[.slice L.Ab t.bk.length L.nb, .int .i64 k, .int .i64 c] W (fun e w' => ∃ A n, e = .returned (.tuple #[.slice A sl.length n, .int .i64 0]) ∧ Below W.heap.size W w' ∧ RdP w' w'.heap.size A sl ∧ ∀ b off, A = some ⟨b, off, none⟩ → W.heap.size ≤ b)) := Lib.hid (fun W h => by
      refine (refScale_any L.Ab L.nb W.heap.size t.bk W (HRT.out W h).b (Nat.le_refl _) hlb k c).mono ?_
      rintro e w' ⟨A, n, h1, h2, h3, h4⟩
      rw [hse.1, hse.2, ← hsl] at h1
      rw [hse.2, ← hsl] at h3
      exact ⟨A, n, h1, h2, h3, h4⟩)
    have HSV := Lib.hid hsv
    clear hsv hse hsl
    obtain ⟨g1, _, g3, g4⟩ := tax_facts (n := max (tot - t.al * k / c) 0) (un := t.un) (mo := t.mo) HSV.out (by omega) (by omega) f6 f7 f8 f9
    have HI : Hid (IntKind.i64.wrap (t.al * k) = t.al * k ∧ IntKind.i64.wrap (t.cr * k) = t.cr * k ∧ IntKind.i64.wrap ((t.al * k).tdiv c) = t.al * k / c ∧ IntKind.i64.wrap ((t.cr * k).tdiv c) = t.cr * k / c) := Lib.hid ⟨IntWalk.i64_in (t.al * k) (by omega), IntWalk.i64_in (t.cr * k) (by omega), by rw [Int.tdiv_eq_ediv_of_nonneg hm1]; exact IntWalk.i64_in _ (by omega), by rw [Int.tdiv_eq_ediv_of_nonneg hm3]; exact IntWalk.i64_in _ (by omega)⟩
    generalize haq : t.al * k / c = aq at *
    generalize hcq : t.cr * k / c = cq at *
    have HTO : Hid (∀ (A3 : Option Addr) (n3 : Nat) W, RdP W W.heap.size A3 sl → Calls Try.prog 50 #[.agg #[.int .i64 t.m, .slice L.Ab t.bk.length L.nb, .int .i64 t.al, .int .i64 t.cr, .int .i64 t.un, .int .i64 t.mo, .slice L.Ar t.rw.length L.nr], .slice A3 sl.length n3, .int .i64 aq, .int .i64 cq, .int .i64 tot] W (RetI (txV sl t.un t.mo aq cq tot) W)) := Lib.hid (fun A3 n3 W h1 => taxR_any t L sl A3 n3 aq cq W.heap.size W h1 (Nat.le_refl _) (by omega) tot (by omega) (by omega) (by omega) (by omega) (by omega) (by omega) g1 g3 (by omega))
    clear g1 g3 g4
    go_enter Try.func22, Try.ntmps22
    go_wp2_with fail
    refine (HVA.out _ HBX.out).mono ?_
    rintro e w1 ⟨rfl, hb⟩
    have HBX := Lib.hid (HBX.out.calc_ hb)
    clear hb
    go_wp2_with fail
    refine (HIN.out _).mono ?_
    rintro e wc ⟨rfl, rfl⟩
    have x0 := HBX.out.box.cell 0
    have x1 := HBX.out.box.cell 1
    have x2 := HBX.out.box.cell 2
    have x3 := HBX.out.box.cell 3
    have x4 := HBX.out.box.cell 4
    have x5 := HBX.out.box.cell 5
    have x6 := HBX.out.box.cell 6
    simp at x0 x1 x2 x3 x4 x5 x6
    go_wp2_with fail
    refine (HSC.out _ HBX.out).mono ?_
    rintro e w3 ⟨A3, n3, rfl, hb, hr3, hf3⟩
    have hwl := HBX.out.box.lt
    have hne3 : ∀ b off, A3 = some ⟨b, off, none⟩ → b ≠ w.heap.size := fun b off e => by have := hf3 b off e; omega
    have HBX := Lib.hid (HBX.out.calc_ hb)
    have HR3 := Lib.hid hr3
    have HNE := Lib.hid hne3
    clear hb hr3 hne3 hf3 hwl x0 x1 x2 x3 x4 x5 x6
    have x0 := HBX.out.box.cell 0
    have x1 := HBX.out.box.cell 1
    have x2 := HBX.out.box.cell 2
    have x3 := HBX.out.box.cell 3
    have x4 := HBX.out.box.cell 4
    have x5 := HBX.out.box.cell 5
    have x6 := HBX.out.box.cell 6
    simp at x0 x1 x2 x3 x4 x5 x6
    have hcz : ¬ c = 0 := by omega
    have HSX : Hid (BX w #[.int .i64 t.m, .slice L.Ab t.bk.length L.nb, .int .i64 t.al, .int .i64 t.cr, .int .i64 t.un, .int .i64 t.mo, .slice L.Ar t.rw.length L.nr] w3) := HBX
    go_wp2_with fail
    obtain ⟨i1, i2, i3, i4⟩ := HI.out
    clear HI
    go_region_held3 (fun W => W.cell? ⟨w.heap.size, 0, none⟩ = some (.int .i64 t.m) ∧ W.cell? ⟨w.heap.size, 1, none⟩ = some (.slice L.Ab t.bk.length L.nb) ∧ W.cell? ⟨w.heap.size, 2, none⟩ = some (.int .i64 t.al) ∧ W.cell? ⟨w.heap.size, 3, none⟩ = some (.int .i64 t.cr) ∧ W.cell? ⟨w.heap.size, 4, none⟩ = some (.int .i64 t.un) ∧ W.cell? ⟨w.heap.size, 5, none⟩ = some (.int .i64 t.mo) ∧ W.cell? ⟨w.heap.size, 6, none⟩ = some (.slice L.Ar t.rw.length L.nr)) (go_keep)
      (first | (go_at_call 50; refine (HTO.out A3 n3 _ ?_).mono ?_; (first | exact HR3.out | exact Rd.drewN_ HR3.out); rintro e w6 ⟨rfl, hb6⟩; (first | (have HB6 := Lib.hid (HBX.out.calc_ hb6)) | (have HB6 := Lib.hid (HBX.out.drew_.calc_ hb6))); have x0 := HB6.out.box.cell 0; have x1 := HB6.out.box.cell 1; have x2 := HB6.out.box.cell 2; have x3 := HB6.out.box.cell 3; have x4 := HB6.out.box.cell 4; have x5 := HB6.out.box.cell 5; have x6 := HB6.out.box.cell 6; (simp at x0 x1 x2 x3 x4 x5 x6); clear hb6))
    all_goals clear i1 i2 i3 i4
    all_goals go_wp2
    all_goals go_ret2
    all_goals exact retII_of HN.out.1.symm HN.out.2.symm (by first | exact HB6.out.below | exact HB6.out.drew_.below)

end Go.Proofs.Ytcincmlpegnaiaa
