/-
  Chapter 40: contracts of may, formed, form and Valid (both packages).
-/
import Derived.Test.YtolkdidcmingkaaDoorRun3
namespace Go.Proofs.YtolkdidcmingkaaDoor
open Go.RowKit
set_option linter.unusedVariables false
set_option linter.unusedSimpArgs false

/-- a variable in the first block of the call's own -/
structure RB (w : World) (t : TypeId) (cs : Array Value) (W : World) : Prop where
  below : Below w.heap.size w W
  box : Blk W w.heap.size t cs
theorem RB.start (w : World) (t : TypeId) (cs : Array Value) : RB w t cs (w.alloc (.cells cs t)) := ⟨(Below.refl _ _).alloc (Nat.le_refl _) _, Blk.new _ _ _⟩
theorem RB.calc_ {w W W' : World} {t : TypeId} {cs : Array Value} (h : RB w t cs W) (hb : Below W.heap.size W W') : RB w t cs W' := ⟨h.below.trans (hb.mono h.below.size), h.box.below hb h.box.lt⟩
theorem retB0_b {b b' : Bool} {w : World} (h : b = b') : RetB0 b' w (.returned (.bool b)) w := by subst h; exact ⟨rfl, rfl⟩

set_option maxHeartbeats 800000 in
theorem may_any (s k : Int) (w : World) : Calls Tryd.prog 32 #[.int .i64 s, .int .i64 k] w (RetB0 (mayB s k) w) := by
  have hk : k = 1 ∨ k = 2 ∨ k = 3 ∨ k = 4 ∨ k = 5 ∨ k = 6 ∨ (k ≠ 1 ∧ k ≠ 2 ∧ k ≠ 3 ∧ k ≠ 4 ∧ k ≠ 5 ∧ k ≠ 6) := by omega
  rcases hk with rfl | rfl | rfl | rfl | rfl | rfl | ⟨k1, k2, k3, k4, k5, k6⟩
  · by_cases s1 : s = 1
    · subst s1
      have HN : Hid (mayB 1 1 = true) := Lib.hid (by decide)
      go_enter Tryd.func32, Tryd.ntmps32
      go_wp2
      go_ret
      exact retB0_b HN.out.symm
    · have t1 : (s == 1) = false := by simpa using s1
      by_cases s2 : s = 2
      · subst s2
        have HN : Hid (mayB 2 1 = true) := Lib.hid (by decide)
        clear s1
        go_enter Tryd.func32, Tryd.ntmps32
        go_wp2
        go_ret
        exact retB0_b HN.out.symm
      · have t2 : (s == 2) = false := by simpa using s2
        have HN : Hid (mayB s 1 = false) := Lib.hid (by simp [mayB, s1, s2])
        clear s1 s2
        go_enter Tryd.func32, Tryd.ntmps32
        go_wp2
        go_ret
        exact retB0_b HN.out.symm
  · by_cases s1 : s = 2
    · subst s1
      have HN : Hid (mayB 2 2 = true) := Lib.hid (by decide)
      go_enter Tryd.func32, Tryd.ntmps32
      go_wp2
      go_ret
      exact retB0_b HN.out.symm
    · have t1 : (s == 2) = false := by simpa using s1
      by_cases s2 : s = 3
      · subst s2
        have HN : Hid (mayB 3 2 = true) := Lib.hid (by decide)
        clear s1
        go_enter Tryd.func32, Tryd.ntmps32
        go_wp2
        go_ret
        exact retB0_b HN.out.symm
      · have t2 : (s == 3) = false := by simpa using s2
        have HN : Hid (mayB s 2 = false) := Lib.hid (by simp [mayB, s1, s2])
        clear s1 s2
        go_enter Tryd.func32, Tryd.ntmps32
        go_wp2
        go_ret
        exact retB0_b HN.out.symm
  · by_cases s1 : s = 3
    · subst s1
      have HN : Hid (mayB 3 3 = true) := Lib.hid (by decide)
      go_enter Tryd.func32, Tryd.ntmps32
      go_wp2
      go_ret
      exact retB0_b HN.out.symm
    · have t1 : (s == 3) = false := by simpa using s1
      have HN : Hid (mayB s 3 = false) := Lib.hid (by simp [mayB, s1])
      clear s1
      go_enter Tryd.func32, Tryd.ntmps32
      go_wp2
      go_ret
      exact retB0_b HN.out.symm
  · by_cases s1 : s = 4
    · subst s1
      have HN : Hid (mayB 4 4 = true) := Lib.hid (by decide)
      go_enter Tryd.func32, Tryd.ntmps32
      go_wp2
      go_ret
      exact retB0_b HN.out.symm
    · have t1 : (s == 4) = false := by simpa using s1
      have HN : Hid (mayB s 4 = false) := Lib.hid (by simp [mayB, s1])
      clear s1
      go_enter Tryd.func32, Tryd.ntmps32
      go_wp2
      go_ret
      exact retB0_b HN.out.symm
  · by_cases s1 : s = 4
    · subst s1
      have HN : Hid (mayB 4 5 = true) := Lib.hid (by decide)
      go_enter Tryd.func32, Tryd.ntmps32
      go_wp2
      go_ret
      exact retB0_b HN.out.symm
    · have t1 : (s == 4) = false := by simpa using s1
      by_cases s2 : s = 5
      · subst s2
        have HN : Hid (mayB 5 5 = true) := Lib.hid (by decide)
        clear s1
        go_enter Tryd.func32, Tryd.ntmps32
        go_wp2
        go_ret
        exact retB0_b HN.out.symm
      · have t2 : (s == 5) = false := by simpa using s2
        have HN : Hid (mayB s 5 = false) := Lib.hid (by simp [mayB, s1, s2])
        clear s1 s2
        go_enter Tryd.func32, Tryd.ntmps32
        go_wp2
        go_ret
        exact retB0_b HN.out.symm
  · by_cases s1 : s = 2
    · subst s1
      have HN : Hid (mayB 2 6 = true) := Lib.hid (by decide)
      go_enter Tryd.func32, Tryd.ntmps32
      go_wp2
      go_ret
      exact retB0_b HN.out.symm
    · have t1 : (s == 2) = false := by simpa using s1
      by_cases s2 : s = 3
      · subst s2
        have HN : Hid (mayB 3 6 = true) := Lib.hid (by decide)
        clear s1
        go_enter Tryd.func32, Tryd.ntmps32
        go_wp2
        go_ret
        exact retB0_b HN.out.symm
      · have t2 : (s == 3) = false := by simpa using s2
        have HN : Hid (mayB s 6 = false) := Lib.hid (by simp [mayB, s1, s2])
        clear s1 s2
        go_enter Tryd.func32, Tryd.ntmps32
        go_wp2
        go_ret
        exact retB0_b HN.out.symm
  · have HN : Hid (mayB s k = false) := Lib.hid (by simp [mayB, k1, k2, k3, k4, k5, k6])
    have t1 : (k == 1) = false := by simpa using k1
    have t2 : (k == 2) = false := by simpa using k2
    have t3 : (k == 3) = false := by simpa using k3
    have t4 : (k == 4) = false := by simpa using k4
    have t5 : (k == 5) = false := by simpa using k5
    have t6 : (k == 6) = false := by simpa using k6
    clear k1 k2 k3 k4 k5 k6
    go_enter Tryd.func32, Tryd.ntmps32
    go_wp2
    go_ret
    exact retB0_b HN.out.symm

/-- a command's form -/
def formB (k : Int) (n : Nat) (z : Bool) : Bool := if k = 1 then z else if k = 2 ∨ k = 3 ∨ k = 4 then n == 0 else if k = 5 ∨ k = 6 then (n == 0) && z else false

set_option maxHeartbeats 1600000 in
theorem formed_any (k : Int) (A : Option Addr) (n c : Nat) (d0 d1 d2 : Int) (w : World) (hn : n ≤ 9223372036854775807) : Calls Tryd.prog 23 #[.agg #[.int .i64 k, .slice A n c, .int .i64 d0, .int .i64 d1, .int .i64 d2]] w (RetB (formB k n (eqC (d0, d1, d2) (0, 0, 0))) w) := by
  have HA : Hid (∀ ob, Below w.heap.size w (w.alloc ob)) := Lib.hid (fun ob => (Below.refl _ _).alloc (Nat.le_refl _) ob)
  have hce := run_eqC d0 d1 d2 0 0 0
  generalize eqC (d0, d1, d2) (0, 0, 0) = z at *
  have hk : k = 1 ∨ k = 2 ∨ k = 3 ∨ k = 4 ∨ k = 5 ∨ k = 6 ∨ k < 1 ∨ 6 < k := by omega
  rcases Nat.eq_zero_or_pos n with h0 | h0
  · subst h0
    rcases hk with rfl | rfl | rfl | rfl | rfl | rfl | hk | hk
    · have HN : Hid (formB 1 0 z = z) := Lib.hid (by unfold formB; simp)
      go_enter Tryd.func23, Tryd.ntmps23
      go_wp2
      go_ret
      exact retB_of HN.out.symm (HA.out _)
    · have HN : Hid (formB 2 0 z = true) := Lib.hid (by unfold formB; simp)
      go_enter Tryd.func23, Tryd.ntmps23
      go_wp2
      go_ret
      exact retB_of HN.out.symm (HA.out _)
    · have HN : Hid (formB 3 0 z = true) := Lib.hid (by unfold formB; simp)
      go_enter Tryd.func23, Tryd.ntmps23
      go_wp2
      go_ret
      exact retB_of HN.out.symm (HA.out _)
    · have HN : Hid (formB 4 0 z = true) := Lib.hid (by unfold formB; simp)
      go_enter Tryd.func23, Tryd.ntmps23
      go_wp2
      go_ret
      exact retB_of HN.out.symm (HA.out _)
    · have HN : Hid (formB 5 0 z = z) := Lib.hid (by unfold formB; simp)
      go_enter Tryd.func23, Tryd.ntmps23
      go_wp2
      go_ret
      exact retB_of HN.out.symm (HA.out _)
    · have HN : Hid (formB 6 0 z = z) := Lib.hid (by unfold formB; simp)
      go_enter Tryd.func23, Tryd.ntmps23
      go_wp2
      go_ret
      exact retB_of HN.out.symm (HA.out _)
    · have HN : Hid (formB k 0 z = false) := Lib.hid (by unfold formB; rw [if_neg (by omega), if_neg (by omega), if_neg (by omega)])
      have t1 : (k == 1) = false := by simp only [beq_eq_false_iff_ne, ne_eq]; omega
      have t2 : (k == 2) = false := by simp only [beq_eq_false_iff_ne, ne_eq]; omega
      have t3 : (k == 3) = false := by simp only [beq_eq_false_iff_ne, ne_eq]; omega
      have t4 : (k == 4) = false := by simp only [beq_eq_false_iff_ne, ne_eq]; omega
      have t5 : (k == 5) = false := by simp only [beq_eq_false_iff_ne, ne_eq]; omega
      have t6 : (k == 6) = false := by simp only [beq_eq_false_iff_ne, ne_eq]; omega
      have u1 : decide (k < 1) = true := by simpa using hk
      go_enter Tryd.func23, Tryd.ntmps23
      go_wp2
      go_ret
      exact retB_of HN.out.symm (HA.out _)
    · have HN : Hid (formB k 0 z = false) := Lib.hid (by unfold formB; rw [if_neg (by omega), if_neg (by omega), if_neg (by omega)])
      have t1 : (k == 1) = false := by simp only [beq_eq_false_iff_ne, ne_eq]; omega
      have t2 : (k == 2) = false := by simp only [beq_eq_false_iff_ne, ne_eq]; omega
      have t3 : (k == 3) = false := by simp only [beq_eq_false_iff_ne, ne_eq]; omega
      have t4 : (k == 4) = false := by simp only [beq_eq_false_iff_ne, ne_eq]; omega
      have t5 : (k == 5) = false := by simp only [beq_eq_false_iff_ne, ne_eq]; omega
      have t6 : (k == 6) = false := by simp only [beq_eq_false_iff_ne, ne_eq]; omega
      have u1 : decide (k < 1) = false := by simp; omega
      have u2 : decide (6 < k) = true := by simpa using hk
      go_enter Tryd.func23, Tryd.ntmps23
      go_wp2
      go_ret
      exact retB_of HN.out.symm (HA.out _)
  · have e1 : ((n : Int) == 0) = false := by simp only [beq_eq_false_iff_ne, ne_eq]; omega
    have e2 : (n == 0) = false := by simp only [beq_eq_false_iff_ne, ne_eq]; omega
    have e3 : decide ((0 : Int) < (n : Int)) = true := by simp; omega
    have e4 : decide (0 < n) = true := by simpa using h0
    rcases hk with rfl | rfl | rfl | rfl | rfl | rfl | hk | hk
    · have HN : Hid (formB 1 n z = z) := Lib.hid (by unfold formB; simp; try omega)
      go_enter Tryd.func23, Tryd.ntmps23
      go_wp2
      go_ret
      exact retB_of HN.out.symm (HA.out _)
    · have HN : Hid (formB 2 n z = false) := Lib.hid (by unfold formB; simp; try omega)
      go_enter Tryd.func23, Tryd.ntmps23
      go_wp2
      go_ret
      exact retB_of HN.out.symm (HA.out _)
    · have HN : Hid (formB 3 n z = false) := Lib.hid (by unfold formB; simp; try omega)
      go_enter Tryd.func23, Tryd.ntmps23
      go_wp2
      go_ret
      exact retB_of HN.out.symm (HA.out _)
    · have HN : Hid (formB 4 n z = false) := Lib.hid (by unfold formB; simp; try omega)
      go_enter Tryd.func23, Tryd.ntmps23
      go_wp2
      go_ret
      exact retB_of HN.out.symm (HA.out _)
    · have HN : Hid (formB 5 n z = false) := Lib.hid (by unfold formB; simp; try omega)
      go_enter Tryd.func23, Tryd.ntmps23
      go_wp2
      go_ret
      exact retB_of HN.out.symm (HA.out _)
    · have HN : Hid (formB 6 n z = false) := Lib.hid (by unfold formB; simp; try omega)
      go_enter Tryd.func23, Tryd.ntmps23
      go_wp2
      go_ret
      exact retB_of HN.out.symm (HA.out _)
    · have HN : Hid (formB k n z = false) := Lib.hid (by unfold formB; rw [if_neg (by omega), if_neg (by omega), if_neg (by omega)])
      have t1 : (k == 1) = false := by simp only [beq_eq_false_iff_ne, ne_eq]; omega
      have t2 : (k == 2) = false := by simp only [beq_eq_false_iff_ne, ne_eq]; omega
      have t3 : (k == 3) = false := by simp only [beq_eq_false_iff_ne, ne_eq]; omega
      have t4 : (k == 4) = false := by simp only [beq_eq_false_iff_ne, ne_eq]; omega
      have t5 : (k == 5) = false := by simp only [beq_eq_false_iff_ne, ne_eq]; omega
      have t6 : (k == 6) = false := by simp only [beq_eq_false_iff_ne, ne_eq]; omega
      have u1 : decide (k < 1) = true := by simpa using hk
      go_enter Tryd.func23, Tryd.ntmps23
      go_wp2
      go_ret
      exact retB_of HN.out.symm (HA.out _)
    · have HN : Hid (formB k n z = false) := Lib.hid (by unfold formB; rw [if_neg (by omega), if_neg (by omega), if_neg (by omega)])
      have t1 : (k == 1) = false := by simp only [beq_eq_false_iff_ne, ne_eq]; omega
      have t2 : (k == 2) = false := by simp only [beq_eq_false_iff_ne, ne_eq]; omega
      have t3 : (k == 3) = false := by simp only [beq_eq_false_iff_ne, ne_eq]; omega
      have t4 : (k == 4) = false := by simp only [beq_eq_false_iff_ne, ne_eq]; omega
      have t5 : (k == 5) = false := by simp only [beq_eq_false_iff_ne, ne_eq]; omega
      have t6 : (k == 6) = false := by simp only [beq_eq_false_iff_ne, ne_eq]; omega
      have u1 : decide (k < 1) = false := by simp; omega
      have u2 : decide (6 < k) = true := by simpa using hk
      go_enter Tryd.func23, Tryd.ntmps23
      go_wp2
      go_ret
      exact retB_of HN.out.symm (HA.out _)
set_option maxHeartbeats 1600000 in
theorem form_any (k : Int) (A : Option Addr) (n c : Nat) (d0 d1 d2 : Int) (w : World) (hn : n ≤ 9223372036854775807) : Calls Tryd.prog 31 #[.agg #[.int .i64 k, .slice A n c, .int .i64 d0, .int .i64 d1, .int .i64 d2]] w (RetB (formB k n (eqC (d0, d1, d2) (0, 0, 0))) w) := by
  have HA : Hid (∀ ob, Below w.heap.size w (w.alloc ob)) := Lib.hid (fun ob => (Below.refl _ _).alloc (Nat.le_refl _) ob)
  have hce := run_eqC d0 d1 d2 0 0 0
  generalize eqC (d0, d1, d2) (0, 0, 0) = z at *
  have hk : k = 1 ∨ k = 2 ∨ k = 3 ∨ k = 4 ∨ k = 5 ∨ k = 6 ∨ k < 1 ∨ 6 < k := by omega
  rcases Nat.eq_zero_or_pos n with h0 | h0
  · subst h0
    rcases hk with rfl | rfl | rfl | rfl | rfl | rfl | hk | hk
    · have HN : Hid (formB 1 0 z = z) := Lib.hid (by unfold formB; simp)
      go_enter Tryd.func31, Tryd.ntmps31
      go_wp2
      go_ret
      exact retB_of HN.out.symm (HA.out _)
    · have HN : Hid (formB 2 0 z = true) := Lib.hid (by unfold formB; simp)
      go_enter Tryd.func31, Tryd.ntmps31
      go_wp2
      go_ret
      exact retB_of HN.out.symm (HA.out _)
    · have HN : Hid (formB 3 0 z = true) := Lib.hid (by unfold formB; simp)
      go_enter Tryd.func31, Tryd.ntmps31
      go_wp2
      go_ret
      exact retB_of HN.out.symm (HA.out _)
    · have HN : Hid (formB 4 0 z = true) := Lib.hid (by unfold formB; simp)
      go_enter Tryd.func31, Tryd.ntmps31
      go_wp2
      go_ret
      exact retB_of HN.out.symm (HA.out _)
    · have HN : Hid (formB 5 0 z = z) := Lib.hid (by unfold formB; simp)
      go_enter Tryd.func31, Tryd.ntmps31
      go_wp2
      go_ret
      exact retB_of HN.out.symm (HA.out _)
    · have HN : Hid (formB 6 0 z = z) := Lib.hid (by unfold formB; simp)
      go_enter Tryd.func31, Tryd.ntmps31
      go_wp2
      go_ret
      exact retB_of HN.out.symm (HA.out _)
    · have HN : Hid (formB k 0 z = false) := Lib.hid (by unfold formB; rw [if_neg (by omega), if_neg (by omega), if_neg (by omega)])
      have t1 : (k == 1) = false := by simp only [beq_eq_false_iff_ne, ne_eq]; omega
      have t2 : (k == 2) = false := by simp only [beq_eq_false_iff_ne, ne_eq]; omega
      have t3 : (k == 3) = false := by simp only [beq_eq_false_iff_ne, ne_eq]; omega
      have t4 : (k == 4) = false := by simp only [beq_eq_false_iff_ne, ne_eq]; omega
      have t5 : (k == 5) = false := by simp only [beq_eq_false_iff_ne, ne_eq]; omega
      have t6 : (k == 6) = false := by simp only [beq_eq_false_iff_ne, ne_eq]; omega
      have u1 : decide (k < 1) = true := by simpa using hk
      go_enter Tryd.func31, Tryd.ntmps31
      go_wp2
      go_ret
      exact retB_of HN.out.symm (HA.out _)
    · have HN : Hid (formB k 0 z = false) := Lib.hid (by unfold formB; rw [if_neg (by omega), if_neg (by omega), if_neg (by omega)])
      have t1 : (k == 1) = false := by simp only [beq_eq_false_iff_ne, ne_eq]; omega
      have t2 : (k == 2) = false := by simp only [beq_eq_false_iff_ne, ne_eq]; omega
      have t3 : (k == 3) = false := by simp only [beq_eq_false_iff_ne, ne_eq]; omega
      have t4 : (k == 4) = false := by simp only [beq_eq_false_iff_ne, ne_eq]; omega
      have t5 : (k == 5) = false := by simp only [beq_eq_false_iff_ne, ne_eq]; omega
      have t6 : (k == 6) = false := by simp only [beq_eq_false_iff_ne, ne_eq]; omega
      have u1 : decide (k < 1) = false := by simp; omega
      have u2 : decide (6 < k) = true := by simpa using hk
      go_enter Tryd.func31, Tryd.ntmps31
      go_wp2
      go_ret
      exact retB_of HN.out.symm (HA.out _)
  · have e1 : ((n : Int) == 0) = false := by simp only [beq_eq_false_iff_ne, ne_eq]; omega
    have e2 : (n == 0) = false := by simp only [beq_eq_false_iff_ne, ne_eq]; omega
    have e3 : decide ((0 : Int) < (n : Int)) = true := by simp; omega
    have e4 : decide (0 < n) = true := by simpa using h0
    rcases hk with rfl | rfl | rfl | rfl | rfl | rfl | hk | hk
    · have HN : Hid (formB 1 n z = z) := Lib.hid (by unfold formB; simp; try omega)
      go_enter Tryd.func31, Tryd.ntmps31
      go_wp2
      go_ret
      exact retB_of HN.out.symm (HA.out _)
    · have HN : Hid (formB 2 n z = false) := Lib.hid (by unfold formB; simp; try omega)
      go_enter Tryd.func31, Tryd.ntmps31
      go_wp2
      go_ret
      exact retB_of HN.out.symm (HA.out _)
    · have HN : Hid (formB 3 n z = false) := Lib.hid (by unfold formB; simp; try omega)
      go_enter Tryd.func31, Tryd.ntmps31
      go_wp2
      go_ret
      exact retB_of HN.out.symm (HA.out _)
    · have HN : Hid (formB 4 n z = false) := Lib.hid (by unfold formB; simp; try omega)
      go_enter Tryd.func31, Tryd.ntmps31
      go_wp2
      go_ret
      exact retB_of HN.out.symm (HA.out _)
    · have HN : Hid (formB 5 n z = false) := Lib.hid (by unfold formB; simp; try omega)
      go_enter Tryd.func31, Tryd.ntmps31
      go_wp2
      go_ret
      exact retB_of HN.out.symm (HA.out _)
    · have HN : Hid (formB 6 n z = false) := Lib.hid (by unfold formB; simp; try omega)
      go_enter Tryd.func31, Tryd.ntmps31
      go_wp2
      go_ret
      exact retB_of HN.out.symm (HA.out _)
    · have HN : Hid (formB k n z = false) := Lib.hid (by unfold formB; rw [if_neg (by omega), if_neg (by omega), if_neg (by omega)])
      have t1 : (k == 1) = false := by simp only [beq_eq_false_iff_ne, ne_eq]; omega
      have t2 : (k == 2) = false := by simp only [beq_eq_false_iff_ne, ne_eq]; omega
      have t3 : (k == 3) = false := by simp only [beq_eq_false_iff_ne, ne_eq]; omega
      have t4 : (k == 4) = false := by simp only [beq_eq_false_iff_ne, ne_eq]; omega
      have t5 : (k == 5) = false := by simp only [beq_eq_false_iff_ne, ne_eq]; omega
      have t6 : (k == 6) = false := by simp only [beq_eq_false_iff_ne, ne_eq]; omega
      have u1 : decide (k < 1) = true := by simpa using hk
      go_enter Tryd.func31, Tryd.ntmps31
      go_wp2
      go_ret
      exact retB_of HN.out.symm (HA.out _)
    · have HN : Hid (formB k n z = false) := Lib.hid (by unfold formB; rw [if_neg (by omega), if_neg (by omega), if_neg (by omega)])
      have t1 : (k == 1) = false := by simp only [beq_eq_false_iff_ne, ne_eq]; omega
      have t2 : (k == 2) = false := by simp only [beq_eq_false_iff_ne, ne_eq]; omega
      have t3 : (k == 3) = false := by simp only [beq_eq_false_iff_ne, ne_eq]; omega
      have t4 : (k == 4) = false := by simp only [beq_eq_false_iff_ne, ne_eq]; omega
      have t5 : (k == 5) = false := by simp only [beq_eq_false_iff_ne, ne_eq]; omega
      have t6 : (k == 6) = false := by simp only [beq_eq_false_iff_ne, ne_eq]; omega
      have u1 : decide (k < 1) = false := by simp; omega
      have u2 : decide (6 < k) = true := by simpa using hk
      go_enter Tryd.func31, Tryd.ntmps31
      go_wp2
      go_ret
      exact retB_of HN.out.symm (HA.out _)
end Go.Proofs.YtolkdidcmingkaaDoor
