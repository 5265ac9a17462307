/-
  Chapter 10: IsInterval and one of the reference of chapter 9. The memory is that of the given program; no conditions.
-/
import Derived.Test.YtagkdkkpgcolkaaSh9
namespace Go.Proofs.Ytagkdkkpgcolkaa
open Go.RowKit
set_option linter.unusedVariables false
set_option linter.unusedSimpArgs false
theorem isInterval_any (a b : Int) (w : World) : Calls Try.prog 53 #[.agg #[.int .i64 a, .int .i64 b]] w (RetB (inB a b 0 120968640) w) := by
  have HB0 : Hid (∀ ob, Below w.heap.size w (w.alloc ob)) := Lib.hid (fun ob => (Below.refl _ _).alloc (Nat.le_refl _) _)
  rcases bool_cases (0 ≤ a) with t0 | t0
  rotate_left
  · have HN : Hid (inB a b 0 120968640 = false) := Lib.hid (decide_eq_false (fun h => by simp at t0; omega))
    go_enter Try.func53, Try.ntmps53
    go_wp2
    go_ret
    exact ⟨ret_bool HN.out.symm, HB0.out _⟩
  rcases bool_cases (a < b) with t1 | t1
  rotate_left
  · have HN : Hid (inB a b 0 120968640 = false) := Lib.hid (decide_eq_false (fun h => by simp at t1; omega))
    go_enter Try.func53, Try.ntmps53
    go_wp2
    go_ret
    exact ⟨ret_bool HN.out.symm, HB0.out _⟩
  rcases bool_cases (b ≤ 120968640) with t2 | t2
  · have HN : Hid (inB a b 0 120968640 = true) := Lib.hid (decide_eq_true (by simp at t0 t1 t2; exact ⟨t0, t1, t2⟩))
    go_enter Try.func53, Try.ntmps53
    go_wp2
    go_ret
    exact ⟨ret_bool HN.out.symm, HB0.out _⟩
  · have HN : Hid (inB a b 0 120968640 = false) := Lib.hid (decide_eq_false (fun h => by simp at t2; omega))
    go_enter Try.func53, Try.ntmps53
    go_wp2
    go_ret
    exact ⟨ret_bool HN.out.symm, HB0.out _⟩
theorem isInterval_at {a b : Int} {q : Bool} {w : World} (hq : Hid (q = inB a b 0 120968640)) : Calls Try.prog 53 #[.agg #[.int .i64 a, .int .i64 b]] w (RetB q w) := by
  rw [hq.out]; exact isInterval_any a b w
open Classical in
/-- a presence that is valid by itself -/
noncomputable def oneB (f t : Int) (bs : List (Int × Int)) : Bool := decide (0 ≤ f ∧ f < t ∧ t ≤ 120968640 ∧ bs.length ≤ 1024 ∧ brOk f t bs bs.length)
open Classical in
theorem oneB_of {f t : Int} {bs : List (Int × Int)} (h : oneB f t bs = true) : 0 ≤ f ∧ f < t ∧ t ≤ 120968640 ∧ bs.length ≤ 1024 ∧ brOk f t bs bs.length := by
  unfold oneB at h
  exact of_decide_eq_true h
open Classical in
theorem oneB_no {f t : Int} {bs : List (Int × Int)} (h : ¬ (0 ≤ f ∧ f < t ∧ t ≤ 120968640 ∧ bs.length ≤ 1024 ∧ brOk f t bs bs.length)) : oneB f t bs = false := by
  unfold oneB
  exact decide_eq_false h
open Classical in
theorem oneB_yes {f t : Int} {bs : List (Int × Int)} (h : 0 ≤ f ∧ f < t ∧ t ≤ 120968640 ∧ bs.length ≤ 1024 ∧ brOk f t bs bs.length) : oneB f t bs = true := by
  unfold oneB
  exact decide_eq_true h
theorem brE_nonneg {f t : Int} {bs : List (Int × Int)} {j : Nat} (h0 : 0 ≤ f) (h : brOk f t bs j) : 0 ≤ brE f bs j := by
  induction j with
  | zero => exact h0
  | succ j ih =>
    have h1 := h j (by omega)
    have h2 := ih (fun i hi => h i (by omega))
    rw [brE]
    omega
set_option maxRecDepth 100000 in
set_option maxHeartbeats 1600000 in
theorem one_any (f t : Int) (B : Option Addr) (cb m : Nat) (bs : List (Int × Int)) (w : World) (hm : Hid (bs.length = m)) (hr : RdP w w.heap.size B bs) :
    Calls Try.prog 49 #[.agg #[.int .i64 f, .int .i64 t, .slice B m cb]] w (RetB (oneB f t bs) w) := by
  have HR := Lib.hid hr
  clear hr
  have HB0 : Hid (∀ ob, Below w.heap.size w (w.alloc ob)) := Lib.hid (fun ob => (Below.refl _ _).alloc (Nat.le_refl _) _)
  obtain ⟨q1, Hq1⟩ : ∃ q, Hid (q = inB f t 0 120968640) := ⟨_, Lib.hid rfl⟩
  by_cases hlong : 1024 < m
  · have hi : 1024 < (m : Int) := by omega
    have HV : Hid (oneB f t bs = false) := Lib.hid (oneB_no (by rw [hm.out]; omega))
    go_enter Try.func49, Try.ntmps49
    go_wp2_with fail
    refine (isInterval_at Hq1).mono ?_
    rintro e w1 ⟨rfl, hb1⟩
    have HB1 : Hid (Below w.heap.size w w1) := Lib.hid ((HB0.out _).trans (hb1.mono (by simp)))
    have e2 : w1.cell? ⟨w.heap.size, 2, none⟩ = some (.slice B m cb) := ((Blk.new _ _ _).below hb1 (by simp)).cell 2
    clear hb1
    cases q1
    all_goals
      go_wp2
      go_ret
      exact ⟨ret_bool HV.out.symm, HB1.out⟩
  · have hi : ¬ 1024 < (m : Int) := by omega
    go_enter Try.func49, Try.ntmps49
    go_wp2_with fail
    refine (isInterval_at Hq1).mono ?_
    rintro e w1 ⟨rfl, hb1⟩
    have HB1 : Hid (Below w.heap.size w w1) := Lib.hid ((HB0.out _).trans (hb1.mono (by simp)))
    have HBlk : Hid (Blk w1 w.heap.size 58 #[.int .i64 f, .int .i64 t, .slice B m cb]) := Lib.hid ((Blk.new _ _ _).below hb1 (by simp))
    have HRB : Hid (RdP w1 w1.heap.size B bs) := Lib.hid (rdP_up HR HB1.out)
    clear hb1
    have e0 : w1.cell? ⟨w.heap.size, 0, none⟩ = some (.int .i64 f) := HBlk.out.cell 0
    have e1 : w1.cell? ⟨w.heap.size, 1, none⟩ = some (.int .i64 t) := HBlk.out.cell 1
    have e2 : w1.cell? ⟨w.heap.size, 2, none⟩ = some (.slice B m cb) := HBlk.out.cell 2
    cases q1 with
    | false =>
      have HV : Hid (oneB f t bs = false) := Lib.hid (oneB_no (fun h => by
        have h1 : inB f t 0 120968640 = true := decide_eq_true ⟨h.1, h.2.1, h.2.2.1⟩
        rw [← Hq1.out] at h1
        cases h1))
      go_wp2
      go_ret
      exact ⟨ret_bool HV.out.symm, HB1.out⟩
    | true =>
      have hq := inB_of Hq1.out.symm
      go_wp2
      go_loopw [3, 4] (fun v i wr => ∃ (j : Nat), j ≤ m ∧ i = .int .i64 j ∧ v = .int .i64 (brE f bs j) ∧ brOk f t bs j ∧ Below w1.heap.size w1 wr) (fun _ i _ => m - (intOf i).toNat)
      case atStart => exact ⟨0, Nat.zero_le _, rfl, rfl, fun i hi => absurd hi (by omega), Below.refl _ _⟩
      case round =>
        obtain ⟨j, hj, rfl, rfl, hok2, hb2⟩ := hrel
        have HOK2 := Lib.hid hok2
        have HB2 := Lib.hid hb2
        have HBlk2 := Lib.hid (HBlk.out.below hb2 HBlk.out.lt)
        have HBx : Hid (Below w.heap.size w wr) := Lib.hid (HB1.out.trans (hb2.mono HB1.out.size))
        clear hok2 hb2 e0 e1 e2
        have e2 : wr.cell? ⟨w.heap.size, 2, none⟩ = some (.slice B m cb) := HBlk2.out.cell 2
        obtain ⟨eb, Heb⟩ : ∃ e, Hid (e = brE f bs j) := ⟨_, Lib.hid rfl⟩
        have heb : 0 ≤ eb := by rw [Heb.out]; exact brE_nonneg hq.1 HOK2.out
        rw [← Heb.out]
        by_cases hjm : j < m
        · have hjl : j < bs.length := by rw [hm.out]; exact hjm
          obtain ⟨gb, ob, rfl, hgb, h0, h1⟩ := HRB.out.all (by omega)
          have c0 := (HB2.out.cell (p := ⟨gb, ob + j * 2, none⟩) hgb).trans (h0 j hjl)
          have c1 := (HB2.out.cell (p := ⟨gb, ob + j * 2 + 1, none⟩) hgb).trans (h1 j hjl)
          clear h0 h1
          obtain ⟨x, Hx⟩ : ∃ e, Hid (e = fst2 bs j) := ⟨_, Lib.hid rfl⟩
          obtain ⟨y, Hy⟩ : ∃ e, Hid (e = snd2 bs j) := ⟨_, Lib.hid rfl⟩
          rw [← Hx.out] at c0
          rw [← Hy.out] at c1
          obtain ⟨q2, Hq2⟩ : ∃ q, Hid (q = inB x y 0 120968640) := ⟨_, Lib.hid rfl⟩
          have HNo : Hid (¬ (eb ≤ x ∧ x < y ∧ y ≤ t) → oneB f t bs = false) := Lib.hid (fun h1 => oneB_no (fun h2 => h1 (by
            have h3 := h2.2.2.2.2 j hjl
            rw [← Heb.out, ← Hx.out, ← Hy.out] at h3
            exact h3)))
          go_wp2_with fail
          refine (isInterval_at Hq2).mono ?_
          rintro e w2 ⟨rfl, hb3⟩
          have HBy : Hid (Below wr.heap.size wr w2) := Lib.hid (((Below.refl _ _).alloc (Nat.le_refl _) _).trans (hb3.mono (by simp)))
          have d0 : w2.cell? ⟨wr.heap.size, 0, none⟩ = some (.int .i64 x) := ((Blk.new _ _ _).below hb3 (by simp)).cell 0
          have d1 : w2.cell? ⟨wr.heap.size, 1, none⟩ = some (.int .i64 y) := ((Blk.new _ _ _).below hb3 (by simp)).cell 1
          have e1 : w2.cell? ⟨w.heap.size, 1, none⟩ = some (.int .i64 t) := (HBlk2.out.below HBy.out HBlk2.out.lt).cell 1
          have HB3 : Hid (Below w1.heap.size w1 w2) := Lib.hid (HB2.out.trans (HBy.out.mono HB2.out.size))
          have HB4 : Hid (Below w.heap.size w w2) := Lib.hid (HB1.out.trans (HB3.out.mono HB1.out.size))
          obtain ⟨gq, Hgq⟩ : ∃ g, Hid (g = wr.heap.size) := ⟨_, Lib.hid rfl⟩
          rw [← Hgq.out] at d0 d1 ⊢
          clear hb3 HBy HB2 c0 c1 e2
          cases q2 with
          | false =>
            have HV : Hid (oneB f t bs = false) := Lib.hid (HNo.out (fun h => by
              have h1 : inB x y 0 120968640 = true := decide_eq_true ⟨by omega, h.2.1, by omega⟩
              rw [← Hq2.out] at h1
              cases h1))
            go_wp2
            go_ret
            exact ⟨ret_bool HV.out.symm, HB4.out⟩
          | true =>
            have hq2 := inB_of Hq2.out.symm
            rcases bool_cases (x < eb) with t1 | t1
            · have HV : Hid (oneB f t bs = false) := Lib.hid (HNo.out (by simp at t1; omega))
              go_wp2
              go_ret
              exact ⟨ret_bool HV.out.symm, HB4.out⟩
            rcases bool_cases (t < y) with t2 | t2
            · have HV : Hid (oneB f t bs = false) := Lib.hid (HNo.out (by simp at t2; omega))
              go_wp2
              go_ret
              exact ⟨ret_bool HV.out.symm, HB4.out⟩
            have HN : Hid (brOk f t bs (j + 1)) := Lib.hid (brOk_succ HOK2.out (by rw [← Heb.out, ← Hx.out, ← Hy.out]; simp at t1 t2; omega))
            go_wp2
            go_roundw
            case rel => exact ⟨j + 1, by omega, by go_num, by rw [Hy.out]; rfl, HN.out, HB3.out⟩
            case measure => simp [intOf]; omega
        · obtain rfl : j = m := by omega
          have HV : Hid (oneB f t bs = true) := Lib.hid (oneB_yes ⟨hq.1, hq.2.1, hq.2.2, by rw [hm.out]; omega, by rw [hm.out]; exact HOK2.out⟩)
          go_wp2
          go_ret
          exact ⟨ret_bool HV.out.symm, HBx.out⟩
theorem one_at {f t : Int} {B : Option Addr} {cb m : Nat} {bs : List (Int × Int)} {q : Bool} {w : World} (hm : Hid (bs.length = m)) (hr : RdP w w.heap.size B bs) (hq : Hid (q = oneB f t bs)) :
    Calls Try.prog 49 #[.agg #[.int .i64 f, .int .i64 t, .slice B m cb]] w (RetB q w) := by
  rw [hq.out]; exact one_any f t B cb m bs w hm hr
end Go.Proofs.Ytagkdkkpgcolkaa
