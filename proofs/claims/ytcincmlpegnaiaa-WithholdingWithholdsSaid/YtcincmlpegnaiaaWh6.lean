/-
  Chapter 30: Due of the program.
-/
import Derived.Test.YtcincmlpegnaiaaWh5
namespace Go.Proofs.Ytcincmlpegnaiaa
open Go.RowKit
set_option linter.unusedVariables false
set_option linter.unusedSimpArgs false

theorem rd_far {w w' : World} {B size n g : Nat} {A : Option Addr} {f : Nat → Nat → Value} (h : Rd w B size A n f) (ho : Only g w w') (hne : ∀ b off, A = some ⟨b, off, none⟩ → b ≠ g) : Rd w' B size A n f := fun hn => by
  obtain ⟨b, off, e, hb, hc⟩ := h hn
  exact ⟨b, off, e, hb, fun i j hi hj => ho.cell (hc i j hi hj) (by intro e'; injection e' with e'; exact hne b off e e')⟩
theorem BX.drew_ {w W : World} {cs : Array Value} (h : BX w cs W) : BX w cs W.drew := h.calc_ (below_drewN (Below.refl _ _) 1)
theorem Rd.drewN_ {w : World} {size n : Nat} {A : Option Addr} {f : Nat → Nat → Value} (h : Rd w w.heap.size size A n f) : Rd w.drew w.drew.heap.size size A n f := Rd.more (h.below (below_drewN (Below.refl _ _) 1)) (Nat.le_refl _)
theorem due_in {t : TF} {c k tot : Int} (h : dueE t c k tot = 0) : 0 ≤ dueV t c k tot ∧ dueV t c k tot ≤ 2000000000000 := by
  cases hv : tvB t
  · rw [show dueE t c k tot = 1 from (if_bad (x := dueX t c k tot) hv).2] at h; omega
  · by_cases hp : dueP c k tot
    · have hb := due_bd hv hp
      rw [show dueV t c k tot = dueX t c k tot from (if_ok (c := 2) hv hp).1]
      have := hp.2.2.2.2.2
      omega
    · rw [show dueE t c k tot = 2 from (if_range (x := dueX t c k tot) hv hp).2] at h; omega
set_option maxHeartbeats 3200000 in
theorem due_any (t : TF) (L : TL) (B : Nat) (w : World) (hr : RdT w B L t) (hB : B ≤ w.heap.size) (c k tot : Int) : Calls Try.prog 21 #[.agg #[.int .i64 t.m, .slice L.Ab t.bk.length L.nb, .int .i64 t.al, .int .i64 t.cr, .int .i64 t.un, .int .i64 t.mo, .slice L.Ar t.rw.length L.nr], .int .i64 c, .int .i64 k, .int .i64 tot] w (RetII (dueV t c k tot) (dueE t c k tot) w) := by
  have HVA : Hid (∀ W, BX w #[.int .i64 t.m, .slice L.Ab t.bk.length L.nb, .int .i64 t.al, .int .i64 t.cr, .int .i64 t.un, .int .i64 t.mo, .slice L.Ar t.rw.length L.nr] W → Calls Try.prog 40 #[.agg #[.int .i64 t.m, .slice L.Ab t.bk.length L.nb, .int .i64 t.al, .int .i64 t.cr, .int .i64 t.un, .int .i64 t.mo, .slice L.Ar t.rw.length L.nr]] W (RetB (tvB t) W)) := Lib.hid (fun W h => wvalid_any t L w.heap.size W ((hr.more hB).below h.below) h.below.size)
  have HRT : Hid (∀ W, BX w #[.int .i64 t.m, .slice L.Ab t.bk.length L.nb, .int .i64 t.al, .int .i64 t.cr, .int .i64 t.un, .int .i64 t.mo, .slice L.Ar t.rw.length L.nr] W → RdT W W.heap.size L t) := Lib.hid (fun W h => ((hr.more hB).below h.below).more h.below.size)
  have HBX := Lib.hid (BX.start w #[.int .i64 t.m, .slice L.Ab t.bk.length L.nb, .int .i64 t.al, .int .i64 t.cr, .int .i64 t.un, .int .i64 t.mo, .slice L.Ar t.rw.length L.nr])
  have hlb := hr.lb
  have hlr := hr.lr
  have HR0 : Hid (RdP w w.heap.size L.Ar t.rw) := Lib.hid (Rd.more hr.r hB)
  clear hr
  have HB1 : Hid (tvB t = false → dueV t c k tot = 0 ∧ dueE t c k tot = 1) := Lib.hid (fun h => if_bad h)
  have HB2 : Hid (tvB t = true → ¬ dueP c k tot → dueV t c k tot = 0 ∧ dueE t c k tot = 2) := Lib.hid (fun h hp => if_range h hp)
  have HB3 : Hid (tvB t = true → dueP c k tot → dueV t c k tot = dueX t c k tot ∧ dueE t c k tot = 0) := Lib.hid (fun h hp => if_ok h hp)
  have HTV : Hid (tvB t = true → Val t.bk ∧ 0 ≤ t.al ∧ t.al ≤ 1000000000 ∧ 0 ≤ t.cr ∧ t.cr ≤ 1000000000 ∧ 1 ≤ t.un ∧ t.un ≤ 100 ∧ 0 ≤ t.mo ∧ t.mo ≤ 6) := Lib.hid tv_facts
  generalize tvB t = vb at *
  cases vb
  · have HN := Lib.hid (HB1.out rfl)
    clear HB1 HB2 HB3 HTV
    go_enter Try.func21, Try.ntmps21
    go_wp2_with fail
    refine (HVA.out _ HBX.out).mono ?_
    rintro e w1 ⟨rfl, hb⟩
    have HBX := Lib.hid (HBX.out.calc_ hb)
    clear hb
    go_wp2
    go_ret2
    exact retII_of HN.out.1.symm HN.out.2.symm HBX.out.below
  · have HB2 := Lib.hid (HB2.out rfl)
    have HB3 := Lib.hid (HB3.out rfl)
    have HTV := Lib.hid (HTV.out rfl)
    clear HB1
    rcases bool_cases (c < 1) with t0 | t0
    · have HN := Lib.hid (HB2.out (by simp at t0; omega))
      clear HB2 HB3 HTV
      go_enter Try.func21, Try.ntmps21
      go_wp2_with fail
      refine (HVA.out _ HBX.out).mono ?_
      rintro e w1 ⟨rfl, hb⟩
      have HBX := Lib.hid (HBX.out.calc_ hb)
      clear hb
      go_wp2
      go_ret2
      exact retII_of HN.out.1.symm HN.out.2.symm HBX.out.below
    rcases bool_cases (53 < c) with t1 | t1
    · have HN := Lib.hid (HB2.out (by simp at t1; omega))
      clear HB2 HB3 HTV
      go_enter Try.func21, Try.ntmps21
      go_wp2_with fail
      refine (HVA.out _ HBX.out).mono ?_
      rintro e w1 ⟨rfl, hb⟩
      have HBX := Lib.hid (HBX.out.calc_ hb)
      clear hb
      go_wp2
      go_ret2
      exact retII_of HN.out.1.symm HN.out.2.symm HBX.out.below
    rcases bool_cases (k < 1) with t2 | t2
    · have HN := Lib.hid (HB2.out (by simp at t2; omega))
      clear HB2 HB3 HTV
      go_enter Try.func21, Try.ntmps21
      go_wp2_with fail
      refine (HVA.out _ HBX.out).mono ?_
      rintro e w1 ⟨rfl, hb⟩
      have HBX := Lib.hid (HBX.out.calc_ hb)
      clear hb
      go_wp2
      go_ret2
      exact retII_of HN.out.1.symm HN.out.2.symm HBX.out.below
    rcases bool_cases (c < k) with t3 | t3
    · have HN := Lib.hid (HB2.out (by simp at t3; omega))
      clear HB2 HB3 HTV
      go_enter Try.func21, Try.ntmps21
      go_wp2_with fail
      refine (HVA.out _ HBX.out).mono ?_
      rintro e w1 ⟨rfl, hb⟩
      have HBX := Lib.hid (HBX.out.calc_ hb)
      clear hb
      go_wp2
      go_ret2
      exact retII_of HN.out.1.symm HN.out.2.symm HBX.out.below
    rcases bool_cases (tot < 0) with t4 | t4
    · have HN := Lib.hid (HB2.out (by simp at t4; omega))
      clear HB2 HB3 HTV
      go_enter Try.func21, Try.ntmps21
      go_wp2_with fail
      refine (HVA.out _ HBX.out).mono ?_
      rintro e w1 ⟨rfl, hb⟩
      have HBX := Lib.hid (HBX.out.calc_ hb)
      clear hb
      go_wp2
      go_ret2
      exact retII_of HN.out.1.symm HN.out.2.symm HBX.out.below
    rcases bool_cases (1000000000000 < tot) with t5 | t5
    · have HN := Lib.hid (HB2.out (by simp at t5; omega))
      clear HB2 HB3 HTV
      go_enter Try.func21, Try.ntmps21
      go_wp2_with fail
      refine (HVA.out _ HBX.out).mono ?_
      rintro e w1 ⟨rfl, hb⟩
      have HBX := Lib.hid (HBX.out.calc_ hb)
      clear hb
      go_wp2
      go_ret2
      exact retII_of HN.out.1.symm HN.out.2.symm HBX.out.below
    have hp : dueP c k tot := by simp at t0 t1 t2 t3 t4 t5; omega
    have HN := Lib.hid (HB3.out hp)
    clear HB2 HB3
    obtain ⟨f1, f2, f3, f4, f5, f6, f7, f8, f9⟩ := HTV.out
    have HF1 := Lib.hid f1
    clear HTV f1
    obtain ⟨sl, hsl⟩ : ∃ sl, sl = dd (sc t.bk k c) := ⟨_, rfl⟩
    have hsv : Val sl := by rw [hsl]; exact scale_val HF1.out (due_sc hp)
    have hs24 : sl.length ≤ 24 := hsv.2.1
    have hse := scale_ok HF1.out (due_sc hp)
    obtain ⟨ha0, ha1⟩ := part_bd (a := t.al) (k := k) (c := c) f2 (by omega) (by omega) (by omega)
    obtain ⟨hc0, hc1⟩ := part_bd (a := t.cr) (k := k) (c := c) f4 (by omega) (by omega) (by omega)
    have hm1 : 0 ≤ t.al * k := Int.mul_nonneg (by omega) (by omega)
    have hm2 : t.al * k ≤ 1000000000 * 53 := Int.le_trans (Int.mul_le_mul_of_nonneg_right f3 (by omega)) (Int.mul_le_mul_of_nonneg_left (by omega) (by omega))
    have hm3 : 0 ≤ t.cr * k := Int.mul_nonneg (by omega) (by omega)
    have hm4 : t.cr * k ≤ 1000000000 * 53 := Int.le_trans (Int.mul_le_mul_of_nonneg_right f5 (by omega)) (Int.mul_le_mul_of_nonneg_left (by omega) (by omega))
    have HN : Hid (dueV t c k tot = txV sl t.un t.mo (t.al * k / c) (t.cr * k / c) tot ∧ dueE t c k tot = 0) := Lib.hid (by rw [hsl]; exact HN.out)
    have HSC : Hid (∀ W, BX w #[.int .i64 t.m, .slice L.Ab t.bk.length L.nb, .int .i64 t.al, .int .i64 t.cr, .int .i64 t.un, .int .i64 t.mo, .slice L.Ar t.rw.length L.nr] W → Calls Try.prog 47 #[.slice L.Ab t.bk.length L.nb, .int .i64 k, .int .i64 c] W (fun e w' => ∃ A n, e = .returned (.tuple #[.slice A sl.length n, .int .i64 0]) ∧ Below W.heap.size W w' ∧ RdP w' w'.heap.size A sl ∧ ∀ b off, A = some ⟨b, off, none⟩ → W.heap.size ≤ b)) := Lib.hid (fun W h => by
      refine (scale_any L.Ab L.nb W.heap.size t.bk W (HRT.out W h).b (Nat.le_refl _) hlb k c).mono ?_
      rintro e w' ⟨A, n, h1, h2, h3, h4⟩
      rw [hse.1, hse.2, ← hsl] at h1
      rw [hse.2, ← hsl] at h3
      exact ⟨A, n, h1, h2, h3, h4⟩)
    have HSV := Lib.hid hsv
    clear hsv hse hsl
    obtain ⟨g1, _, g3, g4⟩ := tax_facts (n := max (tot - t.al * k / c) 0) (un := t.un) (mo := t.mo) HSV.out (by omega) (by omega) f6 f7 f8 f9
    generalize haq : t.al * k / c = aq at *
    generalize hcq : t.cr * k / c = cq at *
    have HTO : Hid (∀ (A3 : Option Addr) (n3 : Nat) W, RdP W W.heap.size A3 sl → RdP W W.heap.size L.Ar t.rw → Calls Try.prog 48 #[.agg #[.int .i64 t.m, .slice A3 sl.length n3, .int .i64 aq, .int .i64 cq, .int .i64 t.un, .int .i64 t.mo, .slice L.Ar t.rw.length L.nr], .int .i64 tot] W (RetII (txV sl t.un t.mo aq cq tot) 0 W)) := Lib.hid (fun A3 n3 W h1 h2 => taxOf_any ⟨t.m, sl, aq, cq, t.un, t.mo, t.rw⟩ ⟨A3, n3, L.Ar, L.nr⟩ W.heap.size W ⟨h1, h2, by show sl.length ≤ _; omega, hlr⟩ (Nat.le_refl _) tot (by omega) (by omega) (by show 0 ≤ aq; omega) (by show aq ≤ _; omega) (by show 0 ≤ cq; omega) (by show cq ≤ _; omega) g1 g3 (by show taxV sl (max (tot - aq) 0) t.un t.mo ≤ 2000000000000; omega))
    clear g1 g3 g4
    go_enter Try.func21, Try.ntmps21
    go_wp2_with fail
    refine (HVA.out _ HBX.out).mono ?_
    rintro e w1 ⟨rfl, hb⟩
    have HBX := Lib.hid (HBX.out.calc_ hb)
    clear hb
    have x0 := HBX.out.box.cell 0
    have x1 := HBX.out.box.cell 1
    have x2 := HBX.out.box.cell 2
    have x3 := HBX.out.box.cell 3
    have x4 := HBX.out.box.cell 4
    have x5 := HBX.out.box.cell 5
    have x6 := HBX.out.box.cell 6
    simp at x0 x1 x2 x3 x4 x5 x6
    go_wp2_with fail
    refine (HSC.out _ HBX.out).mono ?_
    rintro e w3 ⟨A3, n3, rfl, hb, hr3, hf3⟩
    have hwl := HBX.out.box.lt
    have hne3 : ∀ b off, A3 = some ⟨b, off, none⟩ → b ≠ w.heap.size := fun b off e => by have := hf3 b off e; omega
    have HBX := Lib.hid (HBX.out.calc_ hb)
    have HR3 := Lib.hid hr3
    have HNE := Lib.hid hne3
    clear hb hr3 hne3 hf3 hwl x0 x1 x2 x3 x4 x5 x6
    have x0 := HBX.out.box.cell 0
    have x1 := HBX.out.box.cell 1
    have x2 := HBX.out.box.cell 2
    have x3 := HBX.out.box.cell 3
    have x4 := HBX.out.box.cell 4
    have x5 := HBX.out.box.cell 5
    have x6 := HBX.out.box.cell 6
    simp at x0 x1 x2 x3 x4 x5 x6
    have f0' := HBX.out.box.frozen 1
    have f1' := HBX.out.box.frozen 2
    have f2' := HBX.out.box.frozen 3
    go_wp2_with fail
    have ho : Only w.heap.size w3 (((w3.setCell ⟨w.heap.size, 1, none⟩ (.slice A3 sl.length n3)).setCell ⟨w.heap.size, 2, none⟩ (.int .i64 aq)).setCell ⟨w.heap.size, 3, none⟩ (.int .i64 cq)) := (((Only.refl _ _).setCell (p := ⟨w.heap.size, 1, none⟩) (.inl rfl) _).setCell (p := ⟨w.heap.size, 2, none⟩) (.inl rfl) _).setCell (p := ⟨w.heap.size, 3, none⟩) (.inl rfl) _
    have HBE : Hid (Below w.heap.size w (((w3.setCell ⟨w.heap.size, 1, none⟩ (.slice A3 sl.length n3)).setCell ⟨w.heap.size, 2, none⟩ (.int .i64 aq)).setCell ⟨w.heap.size, 3, none⟩ (.int .i64 cq))) := Lib.hid (HBX.out.below.trans (ho.below HBX.out.below.size (Nat.le_refl _)))
    refine (HTO.out A3 n3 _ ?q1 ?q2).mono ?_
    case q1 => exact Rd.more (rd_far HR3.out ho HNE.out) ho.size
    case q2 => exact Rd.more ((HR0.out.below HBE.out)) HBE.out.size
    clear ho
    rintro e w6 ⟨rfl, hb⟩
    have HBF := Lib.hid (HBE.out.trans (hb.mono HBE.out.size))
    clear hb
    go_wp2
    go_ret2
    exact retII_of HN.out.1.symm HN.out.2.symm HBF.out

end Go.Proofs.Ytcincmlpegnaiaa
