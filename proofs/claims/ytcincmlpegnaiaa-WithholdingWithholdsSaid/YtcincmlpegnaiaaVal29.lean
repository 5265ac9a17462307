/-
  Contracts of bracket.Valid and of the reference's Valid: both return whether the schedule is valid.
-/
import Derived.Test.YtcincmlpegnaiaaRows
import Derived.Test.YtcincmlpegnaiaaKit
namespace Go.Proofs.Ytcincmlpegnaiaa
open Go.RowKit
set_option linter.unusedVariables false

def okAt (l : List (Int × Int)) (i : Nat) : Prop := (0 < i → fst2 l (i - 1) < fst2 l i) ∧ fst2 l i ≤ 1000000000000 ∧ 0 ≤ snd2 l i ∧ snd2 l i ≤ 1000000
def Val (l : List (Int × Int)) : Prop := 1 ≤ l.length ∧ l.length ≤ 24 ∧ fst2 l 0 = 0 ∧ ∀ i, i < l.length → okAt l i
noncomputable def valB (l : List (Int × Int)) : Bool := @decide (Val l) (Classical.propDecidable _)
theorem valB_true {l : List (Int × Int)} (h : Val l) : valB l = true := by unfold valB; simpa using h
theorem valB_false {l : List (Int × Int)} (h : ¬ Val l) : valB l = false := by unfold valB; simpa using h

/-- it returns b, and nothing that was there has turned -/
def RetB (b : Bool) (w : World) (e : Ending) (w' : World) : Prop := e = .returned (.bool b) ∧ Below w.heap.size w w'

theorem bad_val {l : List (Int × Int)} (i : Nat) (hi : i < l.length) (h : ¬ okAt l i) : Hid (valB l = false) := valB_false (fun hv => h (hv.2.2.2 i hi))

set_option maxHeartbeats 400000 in
theorem valid_any (A : Option Addr) (c B : Nat) (l : List (Int × Int)) (w : World) (hr : RdP w B A l) (hB : B ≤ w.heap.size) (hl : l.length ≤ 9223372036854775807) :
    Calls Try.prog 53 #[.slice A l.length c] w (RetB (valB l) w) := by
  by_cases h1 : l.length < 1
  · have hv : Hid (valB l = false) := valB_false (fun h => by have := h.1; omega)
    have d1 : decide ((l.length : Int) < 1) = true := by simp; omega
    clear hr
    go_enter Try.func53, Try.ntmps53
    go_wp2
    go_ret
    exact ⟨ret_bool hv.out.symm, Below.refl _ _⟩
  · obtain ⟨b, off, rfl, hb, hc1, hc2⟩ := hr.all (by omega)
    have hc0 : w.cell? ⟨b, off, none⟩ = some (.int .i64 (fst2 l 0)) := by simpa using hc1 0 (by omega)
    have d1 : decide ((l.length : Int) < 1) = false := by simp; omega
    have HC1 := Lib.hid hc1
    have HC2 := Lib.hid hc2
    have HR := Lib.hid hr
    clear hc1 hc2 hr
    by_cases h2 : 24 < l.length
    · have hv : Hid (valB l = false) := valB_false (fun h => by have := h.2.1; omega)
      have d2 : decide (24 < (l.length : Int)) = true := by simp; omega
      go_enter Try.func53, Try.ntmps53
      go_wp2
      go_ret
      exact ⟨ret_bool hv.out.symm, Below.refl _ _⟩
    · have d2 : decide (24 < (l.length : Int)) = false := by simp; omega
      by_cases h3 : fst2 l 0 = 0
      · have h3' : (fst2 l 0 != 0) = false := by simp [h3]
        have H3 := Lib.hid h3
        clear h3
        go_enter Try.func53, Try.ntmps53
        go_wp2
        go_loopw [22] (fun i wr => ∃ k : Nat, k ≤ l.length ∧ i = .int .i64 k ∧ (∀ j, j < k → okAt l j) ∧ Below w.heap.size w wr) (fun i _ => l.length - (intOf i).toNat)
        case atStart => exact ⟨0, Nat.zero_le _, rfl, fun _ h => by omega, Below.refl _ _⟩
        case round =>
          obtain ⟨k, hk, rfl, hok, hbl⟩ := hrel
          have HOK := Lib.hid hok
          have HBL := Lib.hid hbl
          clear hok hbl
          have hsz := HBL.out.size
          by_cases hlt : k < l.length
          · have e1 : wr.cell? ⟨b, off + k * 2, none⟩ = some (.int .i64 (fst2 l k)) := (HBL.out.cell (by show b < _; omega)).trans (HC1.out k hlt)
            have e2 : wr.cell? ⟨b, off + k * 2 + 1, none⟩ = some (.int .i64 (snd2 l k)) := (HBL.out.cell (by show b < _; omega)).trans (HC2.out k hlt)
            have HBad := Lib.hid (bad_val k hlt)
            have HB2 : Hid (∀ n, Below w.heap.size w ((wr.alloc (.cells #[.int .i64 (fst2 l k), .int .i64 (snd2 l k)] 54)).drewN n)) := fun n => below_drewN (HBL.out.alloc hsz _) n
            by_cases hk0 : 0 < k
            · obtain ⟨j, rfl⟩ : ∃ j, k = j + 1 := ⟨k - 1, by omega⟩
              have e0 : wr.cell? ⟨b, off + j * 2, none⟩ = some (.int .i64 (fst2 l j)) := (HBL.out.cell (by show b < _; omega)).trans (HC1.out j (by omega))
              have hw := IntWalk.i64_in (j : Int) (by omega)
              have hjl : j < l.length := by omega
              have hbs : b < wr.heap.size := by omega
              have e0b : ∀ o, (wr.alloc o).cell? ⟨b, off + j * 2, none⟩ = some (.int .i64 (fst2 l j)) := fun o => (World.cell?_alloc_lt wr o ⟨b, off + j * 2, none⟩ hbs).trans e0
              go_wp2
              go_quiet (fail)
              clear hw
              go_wp2
              all_goals first
                | (go_ret; exact ⟨ret_bool (HBad.out (fun h => by obtain ⟨a1, a2, a3, a4⟩ := h; have := a1 (by omega); simp at this; omega)).out.symm, HB2.out _⟩)
                | (go_roundw
                   case rel => exact ⟨j + 1 + 1, by omega, by go_num, fun i hi => by
                      by_cases e : i = j + 1
                      · subst e; exact ⟨fun _ => by simp; omega, by omega, by omega, by omega⟩
                      · exact HOK.out i (by omega), HB2.out _⟩
                   case measure => simp [intOf]; omega)
            · have hd : decide ((0 : Int) < (k : Int)) = false := by simp; omega
              have hd' : decide (0 < k) = false := by simp; omega
              go_wp2
              go_quiet (fail)
              go_wp2
              all_goals first
                | (go_ret; exact ⟨ret_bool (HBad.out (fun h => by obtain ⟨a1, a2, a3, a4⟩ := h; omega)).out.symm, HB2.out _⟩)
                | (go_roundw
                   case rel => exact ⟨k + 1, by omega, by go_num, fun i hi => by
                      by_cases e : i = k
                      · subst e; exact ⟨fun _ => by omega, by omega, by omega, by omega⟩
                      · exact HOK.out i (by omega), HB2.out _⟩
                   case measure => simp [intOf]; omega)
          · have hv : Hid (valB l = true) := valB_true ⟨by omega, by omega, H3.out, fun i hi => HOK.out i (by omega)⟩
            go_wp2
            go_ret
            exact ⟨ret_bool hv.out.symm, HBL.out⟩
      · have hv : Hid (valB l = false) := valB_false (fun h => h3 h.2.2.1)
        have h3' : (fst2 l 0 != 0) = true := by simp [h3]
        go_enter Try.func53, Try.ntmps53
        go_wp2
        go_ret
        exact ⟨ret_bool hv.out.symm, Below.refl _ _⟩

theorem bool_cases (p : Prop) [Decidable p] : decide p = true ∨ decide p = false := by cases h : decide p <;> simp

set_option maxHeartbeats 1600000 in
theorem refValid_any (A : Option Addr) (c B : Nat) (l : List (Int × Int)) (w : World) (hr : RdP w B A l) (hB : B ≤ w.heap.size) (hl : l.length ≤ 9223372036854775807) :
    Calls Try.prog 54 #[.slice A l.length c] w (RetB (valB l) w) := by
  by_cases h1 : l.length < 1
  · have hv : Hid (valB l = false) := valB_false (fun h => by have := h.1; omega)
    have d1 : ((l.length : Int) == 0) = true := by simp; exact List.eq_nil_of_length_eq_zero (by omega)
    clear hr
    go_enter Try.func54, Try.ntmps54
    go_wp2
    go_ret
    exact ⟨ret_bool hv.out.symm, Below.refl _ _⟩
  · obtain ⟨b, off, rfl, hb, hc1, hc2⟩ := hr.all (by omega)
    have hc0 : w.cell? ⟨b, off, none⟩ = some (.int .i64 (fst2 l 0)) := by simpa using hc1 0 (by omega)
    have d1 : ((l.length : Int) == 0) = false := by simp; intro e; rw [e] at h1; simp at h1
    have HC1 := Lib.hid hc1
    have HC2 := Lib.hid hc2
    have HR := Lib.hid hr
    clear hc1 hc2 hr
    by_cases h2 : 24 < l.length
    · have hv : Hid (valB l = false) := valB_false (fun h => by have := h.2.1; omega)
      have d2 : decide (24 < (l.length : Int)) = true := by simp; omega
      go_enter Try.func54, Try.ntmps54
      go_wp2
      go_ret
      exact ⟨ret_bool hv.out.symm, Below.refl _ _⟩
    · have d2 : decide (24 < (l.length : Int)) = false := by simp; omega
      by_cases h3 : fst2 l 0 = 0
      · have h3' : (fst2 l 0 != 0) = false := by simp [h3]
        have H3 := Lib.hid h3
        clear h3
        go_enter Try.func54, Try.ntmps54
        go_wp2
        go_loopw [3] (fun i wr => ∃ k : Nat, k ≤ l.length ∧ i = .int .i64 k ∧ (∀ j, j < k → okAt l j) ∧ Below w.heap.size w wr) (fun i _ => l.length - (intOf i).toNat)
        case atStart => exact ⟨0, Nat.zero_le _, rfl, fun _ h => by omega, Below.refl _ _⟩
        case round =>
          obtain ⟨k, hk, rfl, hok, hbl⟩ := hrel
          have HOK := Lib.hid hok
          have HBL := Lib.hid hbl
          clear hok hbl
          have hsz := HBL.out.size
          by_cases hlt : k < l.length
          · have e1 : wr.cell? ⟨b, off + k * 2, none⟩ = some (.int .i64 (fst2 l k)) := (HBL.out.cell (by show b < _; omega)).trans (HC1.out k hlt)
            have e2 : wr.cell? ⟨b, off + k * 2 + 1, none⟩ = some (.int .i64 (snd2 l k)) := (HBL.out.cell (by show b < _; omega)).trans (HC2.out k hlt)
            have HBad := Lib.hid (bad_val k hlt)
            have HB2 : Hid (∀ n, Below w.heap.size w (wr.drewN n)) := fun n => below_drewN HBL.out n
            by_cases hk0 : 0 < k
            · obtain ⟨j, rfl⟩ : ∃ j, k = j + 1 := ⟨k - 1, by omega⟩
              have e0 : wr.cell? ⟨b, off + j * 2, none⟩ = some (.int .i64 (fst2 l j)) := (HBL.out.cell (by show b < _; omega)).trans (HC1.out j (by omega))
              have hjl : j < l.length := by omega
              have hw := IntWalk.i64_in (j : Int) (by omega)
              rcases bool_cases (fst2 l (j + 1) ≤ fst2 l j) with t1 | t1
              · go_wp2
                go_quiet (fail)
                clear hw
                go_wp2
                go_ret
                exact ⟨ret_bool (HBad.out (fun h => by have := h.1 (by omega); simp at this t1; omega)).out.symm, HB2.out _⟩
              · rcases bool_cases (1000000000000 < fst2 l (j + 1)) with t2 | t2
                · go_wp2
                  go_quiet (fail)
                  clear hw
                  go_wp2
                  go_ret
                  exact ⟨ret_bool (HBad.out (fun h => by have := h.2.1; simp at this t2; omega)).out.symm, HB2.out _⟩
                · rcases bool_cases (snd2 l (j + 1) < 0) with t3 | t3
                  · go_wp2
                    go_quiet (fail)
                    clear hw
                    go_wp2
                    go_ret
                    exact ⟨ret_bool (HBad.out (fun h => by have := h.2.2.1; simp at this t3; omega)).out.symm, HB2.out _⟩
                  · rcases bool_cases (1000000 < snd2 l (j + 1)) with t4 | t4
                    · go_wp2
                      go_quiet (fail)
                      clear hw
                      go_wp2
                      go_ret
                      exact ⟨ret_bool (HBad.out (fun h => by have := h.2.2.2; simp at this t4; omega)).out.symm, HB2.out _⟩
                    · go_wp2
                      go_quiet (fail)
                      clear hw
                      go_wp2
                      go_roundw
                      case rel => exact ⟨j + 1 + 1, by omega, by go_num, fun i hi => by
                        by_cases e : i = j + 1
                        · simp at t1 t2 t3 t4; subst e; exact ⟨fun _ => by simp; omega, by omega, by omega, by omega⟩
                        · exact HOK.out i (by omega), HB2.out _⟩
                      case measure => simp [intOf]; omega
            · have hk00 : k = 0 := by omega
              subst hk00
              have e1' : wr.cell? ⟨b, off, none⟩ = some (.int .i64 (fst2 l 0)) := by simpa using e1
              have e2' : wr.cell? ⟨b, off + 1, none⟩ = some (.int .i64 (snd2 l 0)) := by simpa using e2
              clear e1 e2
              rcases bool_cases (1000000000000 < fst2 l 0) with t2 | t2
              · go_wp2
                go_quiet (fail)
                go_wp2
                go_ret
                exact ⟨ret_bool (HBad.out (fun h => by have := h.2.1; simp at this t2; omega)).out.symm, HB2.out _⟩
              · rcases bool_cases (snd2 l 0 < 0) with t3 | t3
                · go_wp2
                  go_quiet (fail)
                  go_wp2
                  go_ret
                  exact ⟨ret_bool (HBad.out (fun h => by have := h.2.2.1; simp at this t3; omega)).out.symm, HB2.out _⟩
                · rcases bool_cases (1000000 < snd2 l 0) with t4 | t4
                  · go_wp2
                    go_quiet (fail)
                    go_wp2
                    go_ret
                    exact ⟨ret_bool (HBad.out (fun h => by have := h.2.2.2; simp at this t4; omega)).out.symm, HB2.out _⟩
                  · go_wp2
                    go_quiet (fail)
                    go_wp2
                    go_roundw
                    case rel => exact ⟨1, by omega, by go_num, fun i hi => by
                        simp at t2 t3 t4
                        have e : i = 0 := by omega
                        subst e; exact ⟨fun _ => by omega, by omega, by omega, by omega⟩, HB2.out _⟩
                    case measure => simp [intOf]; omega
          · have hv : Hid (valB l = true) := valB_true ⟨by omega, by omega, H3.out, fun i hi => HOK.out i (by omega)⟩
            go_wp2
            go_ret
            exact ⟨ret_bool hv.out.symm, HBL.out⟩
      · have hv : Hid (valB l = false) := valB_false (fun h => h3 h.2.2.1)
        have h3' : (fst2 l 0 != 0) = true := by simp [h3]
        go_enter Try.func54, Try.ntmps54
        go_wp2
        go_ret
        exact ⟨ret_bool hv.out.symm, Below.refl _ _⟩
end Go.Proofs.Ytcincmlpegnaiaa
