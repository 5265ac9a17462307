/-
  Chapter 30: amounts in range, and tables: isAmount, isWithheld, in, isTable, Table.
-/
import Derived.Test.YtcincmlpegnaiaaTax29
import Derived.Test.YtcincmlpegnaiaaScale29
namespace Go.Proofs.Ytcincmlpegnaiaa
open Go.RowKit
set_option linter.unusedVariables false
set_option linter.unusedSimpArgs false

def inM (n m : Int) : Bool := decide (0 ≤ n) && decide (n ≤ m)
def amtB (n : Int) : Bool := inM n 1000000000
def wtB (n : Int) : Bool := decide (-1000000000000 ≤ n) && decide (n ≤ 1000000000000)
/-- it returns b; the world is the same -/
def RetQ (b : Bool) (w : World) (e : Ending) (w' : World) : Prop := e = .returned (.bool b) ∧ w' = w
theorem retQ_of {b b' : Bool} {w : World} (h : b = b') : RetQ b' w (.returned (.bool b)) w := by subst h; exact ⟨rfl, rfl⟩

theorem isAmount_any (n : Int) (w : World) : Calls Try.prog 41 #[.int .i64 n] w (RetQ (amtB n) w) := by
  have he : Hid (amtB n = (decide (0 ≤ n) && decide (n ≤ 1000000000))) := Lib.hid rfl
  rcases bool_cases (0 ≤ n) with t1 | t1
  · rcases bool_cases (n ≤ 1000000000) with t2 | t2
    · go_enter Try.func41, Try.ntmps41
      go_wp2
      go_ret
      exact retQ_of (by rw [he.out, t1, t2]; rfl)
    · go_enter Try.func41, Try.ntmps41
      go_wp2
      go_ret
      exact retQ_of (by rw [he.out, t1, t2]; rfl)
  · go_enter Try.func41, Try.ntmps41
    go_wp2
    go_ret
    exact retQ_of (by rw [he.out, t1]; rfl)
theorem isWithheld_any (n : Int) (w : World) : Calls Try.prog 42 #[.int .i64 n] w (RetQ (wtB n) w) := by
  have he : Hid (wtB n = (decide (-1000000000000 ≤ n) && decide (n ≤ 1000000000000))) := Lib.hid rfl
  rcases bool_cases (-1000000000000 ≤ n) with t1 | t1
  · rcases bool_cases (n ≤ 1000000000000) with t2 | t2
    · go_enter Try.func42, Try.ntmps42
      go_wp2
      go_ret
      exact retQ_of (by rw [he.out, t1, t2]; rfl)
    · go_enter Try.func42, Try.ntmps42
      go_wp2
      go_ret
      exact retQ_of (by rw [he.out, t1, t2]; rfl)
  · go_enter Try.func42, Try.ntmps42
    go_wp2
    go_ret
    exact retQ_of (by rw [he.out, t1]; rfl)
theorem in_any (n m : Int) (w : World) : Calls Try.prog 45 #[.int .i64 n, .int .i64 m] w (RetQ (inM n m) w) := by
  have he : Hid (inM n m = (decide (0 ≤ n) && decide (n ≤ m))) := Lib.hid rfl
  rcases bool_cases (0 ≤ n) with t1 | t1
  · rcases bool_cases (n ≤ m) with t2 | t2
    · go_enter Try.func45, Try.ntmps45
      go_wp2
      go_ret
      exact retQ_of (by rw [he.out, t1, t2]; rfl)
    · go_enter Try.func45, Try.ntmps45
      go_wp2
      go_ret
      exact retQ_of (by rw [he.out, t1, t2]; rfl)
  · go_enter Try.func45, Try.ntmps45
    go_wp2
    go_ret
    exact retQ_of (by rw [he.out, t1]; rfl)
theorem refMode_q (mode : Int) (w : World) : Calls Try.prog 55 #[.int .i64 mode] w (RetQ (decide (0 ≤ mode) && decide (mode ≤ 6)) w) := by
  by_cases h : modeOk mode
  · have e : (decide (0 ≤ mode) && decide (mode ≤ 6)) = true := by simpa [modeOk] using h
    rw [e]
    exact (refMode_t mode w h).mono fun e w' h => ⟨h.1, h.2.symm⟩
  · have e : (decide (0 ≤ mode) && decide (mode ≤ 6)) = false := by
      unfold modeOk at h
      by_cases h0 : 0 ≤ mode
      · have : ¬ mode ≤ 6 := fun h6 => h ⟨h0, h6⟩
        simp [this]
      · simp [h0]
    rw [e]
    exact (refMode_f mode w h).mono fun e w' h => ⟨h.1, h.2.symm⟩
def okR (l : List (Int × Int)) (i : Nat) : Prop := (0 < i → fst2 l (i - 1) < fst2 l i) ∧ fst2 l i ≤ 1000000000 ∧ amtB (snd2 l i) = true
def Tbl (l : List (Int × Int)) : Prop := 1 ≤ l.length ∧ l.length ≤ 256 ∧ fst2 l 0 = 0 ∧ ∀ i, i < l.length → okR l i
noncomputable def tblB (l : List (Int × Int)) : Bool := @decide (Tbl l) (Classical.propDecidable _)
theorem tblB_true {l : List (Int × Int)} (h : Tbl l) : tblB l = true := by unfold tblB; simpa using h
theorem tblB_false {l : List (Int × Int)} (h : ¬ Tbl l) : tblB l = false := by unfold tblB; simpa using h
theorem bad_tbl {l : List (Int × Int)} (i : Nat) (hi : i < l.length) (h : ¬ okR l i) : Hid (tblB l = false) := tblB_false (fun hv => h (hv.2.2.2 i hi))

set_option maxHeartbeats 1600000 in
theorem isTable_any (A : Option Addr) (c B : Nat) (l : List (Int × Int)) (w : World) (hr : RdP w B A l) (hB : B ≤ w.heap.size) (hl : l.length ≤ 9223372036854775807) :
    Calls Try.prog 52 #[.slice A l.length c] w (RetB (tblB l) w) := by
  by_cases h1 : l.length < 1
  · have hv : Hid (tblB l = false) := tblB_false (fun h => by have := h.1; omega)
    have d1 : decide ((l.length : Int) < 1) = true := by simp; omega
    clear hr
    go_enter Try.func52, Try.ntmps52
    go_wp2
    go_ret
    exact ⟨ret_bool hv.out.symm, Below.refl _ _⟩
  · obtain ⟨b, off, rfl, hb, hc1, hc2⟩ := hr.all (by omega)
    have hc0 : w.cell? ⟨b, off, none⟩ = some (.int .i64 (fst2 l 0)) := by simpa using hc1 0 (by omega)
    have d1 : decide ((l.length : Int) < 1) = false := by simp; omega
    have HC1 := Lib.hid hc1
    have HC2 := Lib.hid hc2
    have HR := Lib.hid hr
    clear hc1 hc2 hr
    by_cases h2 : 256 < l.length
    · have hv : Hid (tblB l = false) := tblB_false (fun h => by have := h.2.1; omega)
      have d2 : decide (256 < (l.length : Int)) = true := by simp; omega
      go_enter Try.func52, Try.ntmps52
      go_wp2
      go_ret
      exact ⟨ret_bool hv.out.symm, Below.refl _ _⟩
    · have d2 : decide (256 < (l.length : Int)) = false := by simp; omega
      by_cases h3 : fst2 l 0 = 0
      · have h3' : (fst2 l 0 != 0) = false := by simp [h3]
        have H3 := Lib.hid h3
        clear h3
        go_enter Try.func52, Try.ntmps52
        go_wp2
        go_loopw [22] (fun i wr => ∃ k : Nat, k ≤ l.length ∧ i = .int .i64 k ∧ (∀ j, j < k → okR l j) ∧ Below w.heap.size w wr) (fun i _ => l.length - (intOf i).toNat)
        case atStart => exact ⟨0, Nat.zero_le _, rfl, fun _ h => by omega, Below.refl _ _⟩
        case round =>
          obtain ⟨k, hk, rfl, hok, hbl⟩ := hrel
          have HOK := Lib.hid hok
          have HBL := Lib.hid hbl
          clear hok hbl
          have hsz := HBL.out.size
          by_cases hlt : k < l.length
          · have e1 : wr.cell? ⟨b, off + k * 2, none⟩ = some (.int .i64 (fst2 l k)) := (HBL.out.cell (by show b < _; omega)).trans (HC1.out k hlt)
            have e2 : wr.cell? ⟨b, off + k * 2 + 1, none⟩ = some (.int .i64 (snd2 l k)) := (HBL.out.cell (by show b < _; omega)).trans (HC2.out k hlt)
            have HBad := Lib.hid (bad_tbl k hlt)
            have HB2 : Hid (∀ n, Below w.heap.size w ((wr.alloc (.cells #[.int .i64 (fst2 l k), .int .i64 (snd2 l k)] 75)).drewN n)) := fun n => below_drewN (HBL.out.alloc hsz _) n
            have hbs : b < wr.heap.size := by omega
            have HQ : Hid (∀ W, Calls Try.prog 41 #[.int .i64 (snd2 l k)] W (RetQ (amtB (snd2 l k)) W)) := Lib.hid (fun W => isAmount_any _ W)
            have HOKN : Hid ((0 < k → fst2 l (k - 1) < fst2 l k) → fst2 l k ≤ 1000000000 → amtB (snd2 l k) = true → ∀ j, j < k + 1 → okR l j) := Lib.hid (fun a1 a2 a3 j hj => by
              by_cases e : j = k
              · subst e; exact ⟨a1, a2, a3⟩
              · exact HOK.out j (by omega))
            have HBD3 : Hid (amtB (snd2 l k) = false → Hid (tblB l = false)) := Lib.hid (fun h => HBad.out (fun hh => by rw [hh.2.2] at h; cases h))
            by_cases hk0 : 0 < k
            · obtain ⟨j, rfl⟩ : ∃ j, k = j + 1 := ⟨k - 1, by omega⟩
              have e0 : wr.cell? ⟨b, off + j * 2, none⟩ = some (.int .i64 (fst2 l j)) := (HBL.out.cell (by show b < _; omega)).trans (HC1.out j (by omega))
              have hjl : j < l.length := by omega
              have hw := IntWalk.i64_in (j : Int) (by omega)
              rcases bool_cases (fst2 l (j + 1) ≤ fst2 l j) with t1 | t1
              · go_wp2
                go_quiet ((go_at_call 41; exact Calls.quiet_of_same (HQ.out _)))
                clear hw
                go_wp2
                go_ret
                exact ⟨ret_bool (HBad.out (fun h => by have := h.1 (by omega); simp at this t1; omega)).out.symm, HB2.out _⟩
              · rcases bool_cases (1000000000 < fst2 l (j + 1)) with t2 | t2
                · go_wp2
                  go_quiet ((go_at_call 41; exact Calls.quiet_of_same (HQ.out _)))
                  clear hw
                  go_wp2
                  go_ret
                  exact ⟨ret_bool (HBad.out (fun h => by have := h.2.1; simp at this t2; omega)).out.symm, HB2.out _⟩
                · generalize amtB (snd2 l (j + 1)) = ab at *
                  cases ab
                  · have HT3 := HBD3.out rfl
                    clear HBD3
                    go_wp2
                    go_quiet ((go_at_call 41; exact Calls.quiet_of_same (HQ.out _)))
                    clear hw
                    go_wp2
                    go_ret
                    exact ⟨ret_bool HT3.out.symm, HB2.out _⟩
                  · have HN := Lib.hid (HOKN.out (fun _ => by simp at t1; simpa using t1) (by simp at t2; omega) rfl)
                    go_wp2
                    go_quiet ((go_at_call 41; exact Calls.quiet_of_same (HQ.out _)))
                    clear hw
                    go_wp2
                    go_roundw
                    case rel => exact ⟨j + 1 + 1, by omega, by go_num, HN.out, HB2.out _⟩
                    case measure => simp [intOf]; omega
            · have hk00 : k = 0 := by omega
              subst hk00
              have e1' : wr.cell? ⟨b, off, none⟩ = some (.int .i64 (fst2 l 0)) := by simpa using e1
              have e2' : wr.cell? ⟨b, off + 1, none⟩ = some (.int .i64 (snd2 l 0)) := by simpa using e2
              clear e1 e2
              rcases bool_cases (1000000000 < fst2 l 0) with t2 | t2
              · go_wp2
                go_quiet ((go_at_call 41; exact Calls.quiet_of_same (HQ.out _)))
                go_wp2
                go_ret
                exact ⟨ret_bool (HBad.out (fun h => by have := h.2.1; simp at this t2; omega)).out.symm, HB2.out _⟩
              · generalize amtB (snd2 l 0) = ab at *
                cases ab
                · have HT3 := HBD3.out rfl
                  clear HBD3
                  go_wp2
                  go_quiet ((go_at_call 41; exact Calls.quiet_of_same (HQ.out _)))
                  go_wp2
                  go_ret
                  exact ⟨ret_bool HT3.out.symm, HB2.out _⟩
                · have HN := Lib.hid (HOKN.out (fun h => by omega) (by simp at t2; omega) rfl)
                  go_wp2
                  go_quiet ((go_at_call 41; exact Calls.quiet_of_same (HQ.out _)))
                  go_wp2
                  go_roundw
                  case rel => exact ⟨1, by omega, by go_num, HN.out, HB2.out _⟩
                  case measure => simp [intOf]; omega
          · have hv : Hid (tblB l = true) := tblB_true ⟨by omega, by omega, H3.out, fun i hi => HOK.out i (by omega)⟩
            go_wp2
            go_ret
            exact ⟨ret_bool hv.out.symm, HBL.out⟩
      · have hv : Hid (tblB l = false) := tblB_false (fun h => h3 h.2.2.1)
        have h3' : (fst2 l 0 != 0) = true := by simp [h3]
        go_enter Try.func52, Try.ntmps52
        go_wp2
        go_ret
        exact ⟨ret_bool hv.out.symm, Below.refl _ _⟩

set_option maxHeartbeats 1600000 in
theorem table_any (A : Option Addr) (c B : Nat) (l : List (Int × Int)) (w : World) (hr : RdP w B A l) (hB : B ≤ w.heap.size) (hl : l.length ≤ 9223372036854775807) :
    Calls Try.prog 56 #[.slice A l.length c] w (RetB (tblB l) w) := by
  by_cases h1 : l.length < 1
  · have hv : Hid (tblB l = false) := tblB_false (fun h => by have := h.1; omega)
    have d1 : ((l.length : Int) == 0) = true := by simp; exact List.eq_nil_of_length_eq_zero (by omega)
    clear hr
    go_enter Try.func56, Try.ntmps56
    go_wp2
    go_ret
    exact ⟨ret_bool hv.out.symm, Below.refl _ _⟩
  · obtain ⟨b, off, rfl, hb, hc1, hc2⟩ := hr.all (by omega)
    have hc0 : w.cell? ⟨b, off, none⟩ = some (.int .i64 (fst2 l 0)) := by simpa using hc1 0 (by omega)
    have d1 : ((l.length : Int) == 0) = false := by simp; intro e; rw [e] at h1; simp at h1
    have HC1 := Lib.hid hc1
    have HC2 := Lib.hid hc2
    have HR := Lib.hid hr
    clear hc1 hc2 hr
    by_cases h2 : 256 < l.length
    · have hv : Hid (tblB l = false) := tblB_false (fun h => by have := h.2.1; omega)
      have d2 : decide (256 < (l.length : Int)) = true := by simp; omega
      go_enter Try.func56, Try.ntmps56
      go_wp2
      go_ret
      exact ⟨ret_bool hv.out.symm, Below.refl _ _⟩
    · have d2 : decide (256 < (l.length : Int)) = false := by simp; omega
      by_cases h3 : fst2 l 0 = 0
      · have h3' : (fst2 l 0 != 0) = false := by simp [h3]
        have H3 := Lib.hid h3
        clear h3
        go_enter Try.func56, Try.ntmps56
        go_wp2
        go_loopw [3] (fun i wr => ∃ k : Nat, k ≤ l.length ∧ i = .int .i64 k ∧ (∀ j, j < k → okR l j) ∧ Below w.heap.size w wr) (fun i _ => l.length - (intOf i).toNat)
        case atStart => exact ⟨0, Nat.zero_le _, rfl, fun _ h => by omega, Below.refl _ _⟩
        case round =>
          obtain ⟨k, hk, rfl, hok, hbl⟩ := hrel
          have HOK := Lib.hid hok
          have HBL := Lib.hid hbl
          clear hok hbl
          have hsz := HBL.out.size
          by_cases hlt : k < l.length
          · have e1 : wr.cell? ⟨b, off + k * 2, none⟩ = some (.int .i64 (fst2 l k)) := (HBL.out.cell (by show b < _; omega)).trans (HC1.out k hlt)
            have e2 : wr.cell? ⟨b, off + k * 2 + 1, none⟩ = some (.int .i64 (snd2 l k)) := (HBL.out.cell (by show b < _; omega)).trans (HC2.out k hlt)
            have HBad := Lib.hid (bad_tbl k hlt)
            have HB2 : Hid (∀ n, Below w.heap.size w (wr.drewN n)) := fun n => below_drewN HBL.out n
            have hbs : b < wr.heap.size := by omega
            have HQ : Hid (∀ W, Calls Try.prog 45 #[.int .i64 (snd2 l k), .int .i64 1000000000] W (RetQ (amtB (snd2 l k)) W)) := Lib.hid (fun W => in_any _ _ W)
            have HOKN : Hid ((0 < k → fst2 l (k - 1) < fst2 l k) → fst2 l k ≤ 1000000000 → amtB (snd2 l k) = true → ∀ j, j < k + 1 → okR l j) := Lib.hid (fun a1 a2 a3 j hj => by
              by_cases e : j = k
              · subst e; exact ⟨a1, a2, a3⟩
              · exact HOK.out j (by omega))
            have HBD3 : Hid (amtB (snd2 l k) = false → Hid (tblB l = false)) := Lib.hid (fun h => HBad.out (fun hh => by rw [hh.2.2] at h; cases h))
            by_cases hk0 : 0 < k
            · obtain ⟨j, rfl⟩ : ∃ j, k = j + 1 := ⟨k - 1, by omega⟩
              have e0 : wr.cell? ⟨b, off + j * 2, none⟩ = some (.int .i64 (fst2 l j)) := (HBL.out.cell (by show b < _; omega)).trans (HC1.out j (by omega))
              have hjl : j < l.length := by omega
              have hw := IntWalk.i64_in (j : Int) (by omega)
              rcases bool_cases (fst2 l (j + 1) ≤ fst2 l j) with t1 | t1
              · go_wp2
                go_quiet ((go_at_call 45; exact Calls.quiet_of_same (HQ.out _)))
                clear hw
                go_wp2
                go_ret
                exact ⟨ret_bool (HBad.out (fun h => by have := h.1 (by omega); simp at this t1; omega)).out.symm, HB2.out _⟩
              · rcases bool_cases (1000000000 < fst2 l (j + 1)) with t2 | t2
                · go_wp2
                  go_quiet ((go_at_call 45; exact Calls.quiet_of_same (HQ.out _)))
                  clear hw
                  go_wp2
                  go_ret
                  exact ⟨ret_bool (HBad.out (fun h => by have := h.2.1; simp at this t2; omega)).out.symm, HB2.out _⟩
                · generalize amtB (snd2 l (j + 1)) = ab at *
                  cases ab
                  · have HT3 := HBD3.out rfl
                    clear HBD3
                    go_wp2
                    go_quiet ((go_at_call 45; exact Calls.quiet_of_same (HQ.out _)))
                    clear hw
                    go_wp2
                    go_ret
                    exact ⟨ret_bool HT3.out.symm, HB2.out _⟩
                  · have HN := Lib.hid (HOKN.out (fun _ => by simp at t1; simpa using t1) (by simp at t2; omega) rfl)
                    go_wp2
                    go_quiet ((go_at_call 45; exact Calls.quiet_of_same (HQ.out _)))
                    clear hw
                    go_wp2
                    go_roundw
                    case rel => exact ⟨j + 1 + 1, by omega, by go_num, HN.out, HB2.out _⟩
                    case measure => simp [intOf]; omega
            · have hk00 : k = 0 := by omega
              subst hk00
              have e1' : wr.cell? ⟨b, off, none⟩ = some (.int .i64 (fst2 l 0)) := by simpa using e1
              have e2' : wr.cell? ⟨b, off + 1, none⟩ = some (.int .i64 (snd2 l 0)) := by simpa using e2
              clear e1 e2
              rcases bool_cases (1000000000 < fst2 l 0) with t2 | t2
              · go_wp2
                go_quiet ((go_at_call 45; exact Calls.quiet_of_same (HQ.out _)))
                go_wp2
                go_ret
                exact ⟨ret_bool (HBad.out (fun h => by have := h.2.1; simp at this t2; omega)).out.symm, HB2.out _⟩
              · generalize amtB (snd2 l 0) = ab at *
                cases ab
                · have HT3 := HBD3.out rfl
                  clear HBD3
                  go_wp2
                  go_quiet ((go_at_call 45; exact Calls.quiet_of_same (HQ.out _)))
                  go_wp2
                  go_ret
                  exact ⟨ret_bool HT3.out.symm, HB2.out _⟩
                · have HN := Lib.hid (HOKN.out (fun h => by omega) (by simp at t2; omega) rfl)
                  go_wp2
                  go_quiet ((go_at_call 45; exact Calls.quiet_of_same (HQ.out _)))
                  go_wp2
                  go_roundw
                  case rel => exact ⟨1, by omega, by go_num, HN.out, HB2.out _⟩
                  case measure => simp [intOf]; omega
          · have hv : Hid (tblB l = true) := tblB_true ⟨by omega, by omega, H3.out, fun i hi => HOK.out i (by omega)⟩
            go_wp2
            go_ret
            exact ⟨ret_bool hv.out.symm, HBL.out⟩
      · have hv : Hid (tblB l = false) := tblB_false (fun h => h3 h.2.2.1)
        have h3' : (fst2 l 0 != 0) = true := by simp [h3]
        go_enter Try.func56, Try.ntmps56
        go_wp2
        go_ret
        exact ⟨ret_bool hv.out.symm, Below.refl _ _⟩

end Go.Proofs.Ytcincmlpegnaiaa
