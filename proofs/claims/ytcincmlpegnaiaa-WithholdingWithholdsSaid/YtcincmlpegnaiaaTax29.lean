/-
  Contracts of above and Tax of the program, and of Mode, round and Tax of the references: the same rounded tax, the same errors.
-/
import Derived.Test.YtcincmlpegnaiaaExact29
namespace Go.Proofs.Ytcincmlpegnaiaa
open Go.RowKit
set_option linter.unusedVariables false
set_option linter.unusedSimpArgs false

/-- whether q steps and a rest r are rounded up -/
def upB (q r s mode : Int) : Bool :=
  if r = 0 then false else if mode = 1 ∨ mode = 3 then true else if mode = 4 then decide (s ≤ 2 * r) else if mode = 5 then decide (s < 2 * r)
  else if mode = 6 then decide (s < 2 * r ∨ 2 * r = s ∧ q % 2 = 1) else false
def modeOk (mode : Int) : Prop := 0 ≤ mode ∧ mode ≤ 6
def roundV (x unit mode : Int) : Int := (x / (1000000 * unit) + (if upB (x / (1000000 * unit)) (x % (1000000 * unit)) (1000000 * unit) mode = true then 1 else 0)) * unit
def taxOk (unit mode : Int) : Prop := 1 ≤ unit ∧ unit ≤ 1000000 ∧ 0 ≤ mode ∧ mode ≤ 6

def RetB0 (b : Bool) (w : World) (e : Ending) (w' : World) : Prop := e = .returned (.bool b) ∧ w = w'
theorem retB0_of {b b' : Bool} {w : World} (h : b = b') : RetB0 b' w (.returned (.bool b)) w := by subst h; exact ⟨rfl, rfl⟩

theorem up_zero (q s mode : Int) : upB q 0 s mode = false := by unfold upB; simp
theorem mode_cases {m : Int} (h : modeOk m) : m = 0 ∨ m = 1 ∨ m = 2 ∨ m = 3 ∨ m = 4 ∨ m = 5 ∨ m = 6 := by unfold modeOk at h; omega

set_option maxHeartbeats 800000 in
theorem above_any (q r s mode : Int) (w : World) (hq : 0 ≤ q) (hr0 : 0 ≤ r) (hrs : r < s) (hs : s ≤ 1000000000000) (hm : modeOk mode) :
    Calls Try.prog 60 #[.int .i64 q, .int .i64 r, .int .i64 s, .int .i64 mode] w (RetB0 (upB q r s mode) w) := by
  by_cases h0 : r = 0
  · subst h0
    have he := Lib.hid (up_zero q s mode)
    go_enter Try.func60, Try.ntmps60
    go_wp2
    go_ret
    exact retB0_of he.out.symm
  · have h0' : (r == 0) = false := by simpa using h0
    rcases mode_cases hm with rfl | rfl | rfl | rfl | rfl | rfl | rfl
    · have he : Hid (upB q r s 0 = false) := Lib.hid (by unfold upB; simp [h0])
      clear h0 hm
      go_enter Try.func60, Try.ntmps60
      go_wp2
      go_ret
      exact retB0_of he.out.symm
    · have he : Hid (upB q r s 1 = true) := Lib.hid (by unfold upB; simp [h0])
      clear h0 hm
      go_enter Try.func60, Try.ntmps60
      go_wp2
      go_ret
      exact retB0_of he.out.symm
    · have he : Hid (upB q r s 2 = false) := Lib.hid (by unfold upB; simp [h0])
      clear h0 hm
      go_enter Try.func60, Try.ntmps60
      go_wp2
      go_ret
      exact retB0_of he.out.symm
    · have he : Hid (upB q r s 3 = true) := Lib.hid (by unfold upB; simp [h0])
      clear h0 hm
      go_enter Try.func60, Try.ntmps60
      go_wp2
      go_ret
      exact retB0_of he.out.symm
    · have he : Hid (upB q r s 4 = decide (s ≤ 2 * r)) := Lib.hid (by unfold upB; simp [h0])
      clear h0 hm
      go_enter Try.func60, Try.ntmps60
      go_wp2
      go_ret
      exact retB0_of he.out.symm
    · have he : Hid (upB q r s 5 = decide (s < 2 * r)) := Lib.hid (by unfold upB; simp [h0])
      clear h0 hm
      go_enter Try.func60, Try.ntmps60
      go_wp2
      go_ret
      exact retB0_of he.out.symm
    · have he : Hid (upB q r s 6 = decide (s < 2 * r ∨ 2 * r = s ∧ q % 2 = 1)) := Lib.hid (by unfold upB; simp [h0])
      clear h0 hm
      rcases bool_cases (s < 2 * r) with t1 | t1
      · have hv : Hid (upB q r s 6 = true) := Lib.hid (by rw [he.out]; simp at t1; simp [t1])
        go_enter Try.func60, Try.ntmps60
        go_wp2
        go_ret
        exact retB0_of hv.out.symm
      · by_cases t2 : 2 * r = s
        · have t2' : (2 * r == s) = true := by simpa using t2
          by_cases t3 : q % 2 = 1
          · have t3' : (q % 2 == 1) = true := by simpa using t3
            have hv : Hid (upB q r s 6 = true) := Lib.hid (by rw [he.out]; simp [t2, t3])
            clear t2 t3
            go_enter Try.func60, Try.ntmps60
            go_wp2
            go_ret
            exact retB0_of hv.out.symm
          · have t3' : (q % 2 == 1) = false := by simpa using t3
            have hv : Hid (upB q r s 6 = false) := Lib.hid (by rw [he.out]; simp at t1; simp [t3]; omega)
            clear t2 t3
            go_enter Try.func60, Try.ntmps60
            go_wp2
            go_ret
            exact retB0_of hv.out.symm
        · have t2' : (2 * r == s) = false := by simpa using t2
          have hv : Hid (upB q r s 6 = false) := Lib.hid (by rw [he.out]; simp at t1; simp [t2]; omega)
          clear t2
          go_enter Try.func60, Try.ntmps60
          go_wp2
          go_ret
          exact retB0_of hv.out.symm

theorem round_bd {x unit : Int} (h0 : 0 ≤ x) (h1 : x ≤ 1000000000000000000) (hu : 1 ≤ unit) :
    0 ≤ x / (1000000 * unit) ∧ 0 ≤ x / (1000000 * unit) * unit ∧ x / (1000000 * unit) * unit ≤ 1000000000000 ∧ x / (1000000 * unit) ≤ 1000000000000000000 := by
  have z : x / (1000000 * unit) ≤ x := Int.ediv_le_self _ h0
  have a : 0 ≤ x / (1000000 * unit) := Int.ediv_nonneg h0 (by omega)
  have b : x / (1000000 * unit) * (1000000 * unit) ≤ x := Int.ediv_mul_le x (by omega)
  have c : x / (1000000 * unit) * (1000000 * unit) = 1000000 * (x / (1000000 * unit) * unit) := by rw [← Int.mul_assoc, Int.mul_comm (x / (1000000 * unit)) 1000000, Int.mul_assoc]
  have d : 0 ≤ x / (1000000 * unit) * unit := Int.mul_nonneg a (by omega)
  omega
theorem mod_bd2 {x unit : Int} (hu : 1 ≤ unit) : 0 ≤ x % (1000000 * unit) ∧ x % (1000000 * unit) < 1000000 * unit := ⟨Int.emod_nonneg x (by omega), Int.emod_lt_of_pos x (by omega)⟩
theorem round_up {x unit mode : Int} (h : upB (x / (1000000 * unit)) (x % (1000000 * unit)) (1000000 * unit) mode = true) : (x / (1000000 * unit) + 1) * unit = roundV x unit mode := by
  unfold roundV; rw [if_pos h]
theorem round_down {x unit mode : Int} (h : upB (x / (1000000 * unit)) (x % (1000000 * unit)) (1000000 * unit) mode = false) : (x / (1000000 * unit)) * unit = roundV x unit mode := by
  unfold roundV; rw [if_neg (by rw [h]; simp), Int.add_zero]

set_option maxHeartbeats 1600000 in
theorem round_any (x unit mode : Int) (w : World) (h0 : 0 ≤ x) (h1 : x ≤ 1000000000000000000) (hu : 1 ≤ unit) (hu2 : unit ≤ 1000000) (hm : modeOk mode) :
    Calls Try.prog 62 #[.int .i64 x, .int .i64 unit, .int .i64 mode] w (RetI (roundV x unit mode) w) := by
  have hq := round_bd h0 h1 hu
  have hr := mod_bd2 (x := x) hu
  have HU := Lib.hid (@round_up x unit mode)
  have HD := Lib.hid (@round_down x unit mode)
  have hw0 : IntKind.i64.wrap (1000000 * unit) = 1000000 * unit := IntWalk.i64_in _ (by omega)
  have hw1 : IntKind.i64.wrap (x.tdiv (1000000 * unit)) = x / (1000000 * unit) := IntWalk.i64_quo _ _ ⟨h0, by omega, by omega⟩
  have hw2 : x.tmod (1000000 * unit) = x % (1000000 * unit) := IntWalk.rem_in _ _ h0
  have hz : (1000000 * unit == 0) = false := by simp; omega
  have hz2 : (unit == 0) = false := by simp; omega
  go_enter Try.func62, Try.ntmps62
  go_wp2
  go_quiet (fail)
  clear hw0 hw1 hw2
  generalize x / (1000000 * unit) = q at *
  generalize x % (1000000 * unit) = r at *
  clear h0 h1
  have hqu : (q + 1) * unit = q * unit + unit := by rw [Int.add_mul, Int.one_mul]
  have hqb : 0 ≤ (q + 1) * unit ∧ (q + 1) * unit ≤ 1000001000000 := by omega
  clear hqu
  rcases mode_cases hm with rfl | rfl | rfl | rfl | rfl | rfl | rfl
  · have he : Hid (upB q r (1000000 * unit) 0 = false) := Lib.hid (by unfold upB; simp)
    clear hm
    go_wp2
    go_ret
    exact ⟨ret_int (HD.out he.out), below_drewN (Below.refl _ _) _⟩
  · rcases bool_cases (0 < r) with t1 | t1
    · have he : Hid (upB q r (1000000 * unit) 1 = true) := Lib.hid (by unfold upB; simp at t1; simp; omega)
      clear hm
      go_wp2
      go_ret
      exact ⟨ret_int (HU.out he.out), below_drewN (Below.refl _ _) _⟩
    · have he : Hid (upB q r (1000000 * unit) 1 = false) := Lib.hid (by unfold upB; simp at t1; simp; omega)
      clear hm
      go_wp2
      go_ret
      exact ⟨ret_int (HD.out he.out), below_drewN (Below.refl _ _) _⟩
  · have he : Hid (upB q r (1000000 * unit) 2 = false) := Lib.hid (by unfold upB; simp)
    clear hm
    go_wp2
    go_ret
    exact ⟨ret_int (HD.out he.out), below_drewN (Below.refl _ _) _⟩
  · rcases bool_cases (0 < r) with t1 | t1
    · have he : Hid (upB q r (1000000 * unit) 3 = true) := Lib.hid (by unfold upB; simp at t1; simp; omega)
      clear hm
      go_wp2
      go_ret
      exact ⟨ret_int (HU.out he.out), below_drewN (Below.refl _ _) _⟩
    · have he : Hid (upB q r (1000000 * unit) 3 = false) := Lib.hid (by unfold upB; simp at t1; simp; omega)
      clear hm
      go_wp2
      go_ret
      exact ⟨ret_int (HD.out he.out), below_drewN (Below.refl _ _) _⟩
  · rcases bool_cases (1000000 * unit ≤ 2 * r) with t1 | t1
    · have he : Hid (upB q r (1000000 * unit) 4 = true) := Lib.hid (by unfold upB; simp at t1; simp [t1]; omega)
      clear hm
      go_wp2
      go_ret
      exact ⟨ret_int (HU.out he.out), below_drewN (Below.refl _ _) _⟩
    · have he : Hid (upB q r (1000000 * unit) 4 = false) := Lib.hid (by unfold upB; simp at t1; simp; omega)
      clear hm
      go_wp2
      go_ret
      exact ⟨ret_int (HD.out he.out), below_drewN (Below.refl _ _) _⟩
  · rcases bool_cases (1000000 * unit < 2 * r) with t1 | t1
    · have he : Hid (upB q r (1000000 * unit) 5 = true) := Lib.hid (by unfold upB; simp at t1; simp [t1]; omega)
      clear hm
      go_wp2
      go_ret
      exact ⟨ret_int (HU.out he.out), below_drewN (Below.refl _ _) _⟩
    · have he : Hid (upB q r (1000000 * unit) 5 = false) := Lib.hid (by unfold upB; simp at t1; simp; omega)
      clear hm
      go_wp2
      go_ret
      exact ⟨ret_int (HD.out he.out), below_drewN (Below.refl _ _) _⟩
  · rcases bool_cases (1000000 * unit < 2 * r) with t1 | t1
    · have he : Hid (upB q r (1000000 * unit) 6 = true) := Lib.hid (by unfold upB; simp at t1; simp [t1]; omega)
      clear hm
      go_wp2
      go_ret
      exact ⟨ret_int (HU.out he.out), below_drewN (Below.refl _ _) _⟩
    · by_cases t2 : 2 * r = 1000000 * unit
      · have t2' : (2 * r == 1000000 * unit) = true := by simpa using t2
        by_cases t3 : q % 2 = 1
        · have t3' : (q % 2 == 1) = true := by simpa using t3
          have he : Hid (upB q r (1000000 * unit) 6 = true) := Lib.hid (by unfold upB; simp at t1; simp [t2, t3]; omega)
          clear hm t2 t3
          go_wp2
          go_ret
          exact ⟨ret_int (HU.out he.out), below_drewN (Below.refl _ _) _⟩
        · have t3' : (q % 2 == 1) = false := by simpa using t3
          have he : Hid (upB q r (1000000 * unit) 6 = false) := Lib.hid (by unfold upB; simp at t1; simp [t3]; omega)
          clear hm t2 t3
          go_wp2
          go_ret
          exact ⟨ret_int (HD.out he.out), below_drewN (Below.refl _ _) _⟩
      · have t2' : (2 * r == 1000000 * unit) = false := by simpa using t2
        have he : Hid (upB q r (1000000 * unit) 6 = false) := Lib.hid (by unfold upB; simp at t1; simp [t2]; omega)
        clear hm t2
        go_wp2
        go_ret
        exact ⟨ret_int (HD.out he.out), below_drewN (Below.refl _ _) _⟩

noncomputable def taxE (l : List (Int × Int)) (n unit mode : Int) : Int := if chk l n = 0 then (if 1 ≤ unit ∧ unit ≤ 1000000 ∧ 0 ≤ mode ∧ mode ≤ 6 then 0 else 2) else chk l n
noncomputable def taxV (l : List (Int × Int)) (n unit mode : Int) : Int := if chk l n = 0 ∧ 1 ≤ unit ∧ unit ≤ 1000000 ∧ 0 ≤ mode ∧ mode ≤ 6 then roundV (exL l n) unit mode else 0
theorem tax_err {l : List (Int × Int)} {n unit mode : Int} (h : chk l n ≠ 0) : taxV l n unit mode = 0 ∧ taxE l n unit mode = chk l n ∧ exactV l n = 0 := by
  unfold taxV taxE exactV; rw [if_neg (fun h' => h h'.1), if_neg h, if_neg h]; exact ⟨rfl, rfl, rfl⟩
theorem tax_range {l : List (Int × Int)} {n unit mode : Int} (h : chk l n = 0) (h2 : unit < 1 ∨ 1000000 < unit ∨ mode < 0 ∨ 6 < mode) : taxV l n unit mode = 0 ∧ taxE l n unit mode = 2 ∧ exactV l n = exL l n := by
  unfold taxV taxE exactV; rw [if_neg (by omega), if_pos h, if_neg (by omega), if_pos h]; exact ⟨rfl, rfl, rfl⟩
theorem tax_ok {l : List (Int × Int)} {n unit mode : Int} (h : chk l n = 0) (h1 : 1 ≤ unit) (h2 : unit ≤ 1000000) (h3 : modeOk mode) : taxV l n unit mode = roundV (exL l n) unit mode ∧ taxE l n unit mode = 0 ∧ exactV l n = exL l n := by
  obtain ⟨h3, h4⟩ := h3
  unfold taxV taxE exactV; rw [if_pos ⟨h, h1, h2, h3, h4⟩, if_pos h, if_pos ⟨h1, h2, h3, h4⟩, if_pos h]; exact ⟨rfl, rfl, rfl⟩
theorem chk_zero {l : List (Int × Int)} {n : Int} (h : chk l n = 0) : Val l ∧ 0 ≤ n ∧ n ≤ 1000000000000 := by
  by_cases hV : Val l
  · refine ⟨hV, ?_⟩
    by_cases hn : n < 0 ∨ 1000000000000 < n
    · rw [chk_out hV hn] at h; omega
    · omega
  · rw [chk_bad hV] at h; omega

set_option maxHeartbeats 400000 in
theorem refMode_t (mode : Int) (w : World) (h : modeOk mode) : Calls Try.prog 55 #[.int .i64 mode] w (RetB0 true w) := by
  obtain ⟨h1, h2⟩ := h
  have t1 : decide (0 ≤ mode) = true := by simpa using h1
  have t2 : decide (mode ≤ 6) = true := by simpa using h2
  go_enter Try.func55, Try.ntmps55
  go_wp2
  go_ret
  exact retB0_of rfl
set_option maxHeartbeats 400000 in
theorem refMode_f (mode : Int) (w : World) (h : ¬ modeOk mode) : Calls Try.prog 55 #[.int .i64 mode] w (RetB0 false w) := by
  rcases bool_cases (0 ≤ mode) with t1 | t1
  · have t2 : decide (mode ≤ 6) = false := by unfold modeOk at h; simp at t1; simp; omega
    clear h
    go_enter Try.func55, Try.ntmps55
    go_wp2
    go_ret
    exact retB0_of rfl
  · clear h
    go_enter Try.func55, Try.ntmps55
    go_wp2
    go_ret
    exact retB0_of rfl

section
variable (A : Option Addr) (c B : Nat) (l : List (Int × Int)) (w : World) (hr : RdP w B A l) (hB : B ≤ w.heap.size) (hl : l.length ≤ 9223372036854775807)
include hr hB hl

set_option maxHeartbeats 1600000 in
theorem tax_any (n unit mode : Int) : Calls Try.prog 57 #[.slice A l.length c, .int .i64 n, .int .i64 unit, .int .i64 mode] w (RetII (taxV l n unit mode) (taxE l n unit mode) w) := by
  have HC := Lib.hid (exact_any A c B l w hr hB hl n)
  clear hr
  by_cases h0 : chk l n = 0
  · by_cases hok : unit < 1 ∨ 1000000 < unit ∨ mode < 0 ∨ 6 < mode
    · have HT := Lib.hid (tax_range h0 hok)
      rw [HT.out.2.2, h0] at HC
      clear h0
      go_enter Try.func57, Try.ntmps57
      go_wp2_with fail
      refine HC.out.mono ?_
      rintro e w1 ⟨rfl, hb1⟩
      have HB1 := Lib.hid hb1
      clear hb1
      rcases bool_cases (unit < 1) with t1 | t1
      · go_wp2
        go_ret2
        exact retII_of HT.out.1.symm HT.out.2.1.symm HB1.out
      · rcases bool_cases (1000000 < unit) with t2 | t2
        · go_wp2
          go_ret2
          exact retII_of HT.out.1.symm HT.out.2.1.symm HB1.out
        · rcases bool_cases (mode < 0) with t3 | t3
          · go_wp2
            go_ret2
            exact retII_of HT.out.1.symm HT.out.2.1.symm HB1.out
          · have t4 : decide (6 < mode) = true := by simp at *; omega
            go_wp2
            go_ret2
            exact retII_of HT.out.1.symm HT.out.2.1.symm HB1.out
    · have hz := chk_zero h0
      have hx := exL_bd hz.1 hz.2.1 hz.2.2
      have hm : modeOk mode := ⟨by omega, by omega⟩
      have hu1 : 1 ≤ unit := by omega
      have hu2 : unit ≤ 1000000 := by omega
      have HT := Lib.hid (tax_ok (mode := mode) h0 hu1 hu2 hm)
      rw [HT.out.2.2, h0] at HC
      have HM := Lib.hid hm
      have HU := Lib.hid (@round_up (exL l n) unit mode)
      have HD := Lib.hid (@round_down (exL l n) unit mode)
      clear h0 hz hm
      have t1 : decide (unit < 1) = false := by simp; omega
      have t2 : decide (1000000 < unit) = false := by simp; omega
      have t3 : decide (mode < 0) = false := by simp; omega
      have t4 : decide (6 < mode) = false := by simp; omega
      clear hok
      go_enter Try.func57, Try.ntmps57
      go_wp2_with fail
      refine HC.out.mono ?_
      rintro e w1 ⟨rfl, hb1⟩
      have HB1 := Lib.hid hb1
      clear hb1
      generalize exL l n = x at *
      have hq := round_bd hx.1 hx.2 hu1
      have hr := mod_bd2 (x := x) hu1
      have hw0 : IntKind.i64.wrap (1000000 * unit) = 1000000 * unit := IntWalk.i64_in _ (by omega)
      have hw1 : IntKind.i64.wrap (x.tdiv (1000000 * unit)) = x / (1000000 * unit) := IntWalk.i64_quo _ _ ⟨hx.1, by omega, by omega⟩
      have hw2 : x.tmod (1000000 * unit) = x % (1000000 * unit) := IntWalk.rem_in _ _ hx.1
      have hz : (1000000 * unit == 0) = false := by simp; omega
      have hz2 : (unit == 0) = false := by simp; omega
      go_wp2
      go_quiet (fail)
      clear hw0 hw1 hw2
      generalize x / (1000000 * unit) = q at *
      generalize x % (1000000 * unit) = r at *
      have hqu : (q + 1) * unit = q * unit + unit := by rw [Int.add_mul, Int.one_mul]
      have hqb : 0 ≤ (q + 1) * unit ∧ (q + 1) * unit ≤ 1000001000000 := by omega
      clear hqu
      go_wp2_with fail
      refine (above_any q r (1000000 * unit) mode _ (by omega) (by omega) (by omega) (by omega) HM.out).mono ?_
      rintro e w2 ⟨rfl, rfl⟩
      cases hup : upB q r (1000000 * unit) mode
      · have Hup := Lib.hid hup
        clear hup
        go_wp2
        go_ret2
        exact retII_of ((HD.out Hup.out).trans HT.out.1.symm) HT.out.2.1.symm (below_drewN HB1.out _)
      · have Hup := Lib.hid hup
        clear hup
        go_wp2
        go_ret2
        exact retII_of ((HU.out Hup.out).trans HT.out.1.symm) HT.out.2.1.symm (below_drewN HB1.out _)
  · have HT := Lib.hid (tax_err (unit := unit) (mode := mode) h0)
    rw [HT.out.2.2] at HC
    have h0' : (chk l n != 0) = true := by simpa using h0
    clear h0
    go_enter Try.func57, Try.ntmps57
    go_wp2_with fail
    refine HC.out.mono ?_
    rintro e w1 ⟨rfl, hb1⟩
    have HB1 := Lib.hid hb1
    clear hb1
    go_wp2
    go_ret2
    exact retII_of HT.out.1.symm HT.out.2.1.symm HB1.out

set_option maxHeartbeats 1600000 in
theorem refTax_any (n unit mode : Int) : Calls Try.prog 58 #[.slice A l.length c, .int .i64 n, .int .i64 unit, .int .i64 mode] w (RetII (taxV l n unit mode) (taxE l n unit mode) w) := by
  have HC := Lib.hid (refExact_any A c B l w hr hB hl n)
  clear hr
  by_cases h0 : chk l n = 0
  · by_cases hok : unit < 1 ∨ 1000000 < unit ∨ mode < 0 ∨ 6 < mode
    · have HT := Lib.hid (tax_range h0 hok)
      rw [HT.out.2.2, h0] at HC
      clear h0
      go_enter Try.func58, Try.ntmps58
      go_wp2_with fail
      refine HC.out.mono ?_
      rintro e w1 ⟨rfl, hb1⟩
      have HB1 := Lib.hid hb1
      clear hb1
      rcases bool_cases (unit < 1) with t1 | t1
      · go_wp2
        go_ret2
        exact retII_of HT.out.1.symm HT.out.2.1.symm HB1.out
      · rcases bool_cases (1000000 < unit) with t2 | t2
        · go_wp2
          go_ret2
          exact retII_of HT.out.1.symm HT.out.2.1.symm HB1.out
        · have hm : ¬ modeOk mode := fun h => by unfold modeOk at h; simp at t1 t2; omega
          go_wp2_with fail
          refine (refMode_f mode _ hm).mono ?_
          rintro e w2 ⟨rfl, rfl⟩
          go_wp2
          go_ret2
          exact retII_of HT.out.1.symm HT.out.2.1.symm HB1.out
    · have hz := chk_zero h0
      have hx := exL_bd hz.1 hz.2.1 hz.2.2
      have hm : modeOk mode := ⟨by omega, by omega⟩
      have hu1 : 1 ≤ unit := by omega
      have hu2 : unit ≤ 1000000 := by omega
      have HT := Lib.hid (tax_ok (mode := mode) h0 hu1 hu2 hm)
      rw [HT.out.2.2, h0] at HC
      have HM := Lib.hid hm
      have HU := Lib.hid (@round_up (exL l n) unit mode)
      have HD := Lib.hid (@round_down (exL l n) unit mode)
      clear h0 hz hm
      have t1 : decide (unit < 1) = false := by simp; omega
      have t2 : decide (1000000 < unit) = false := by simp; omega
      have t3 : decide (mode < 0) = false := by simp; omega
      have t4 : decide (6 < mode) = false := by simp; omega
      clear hok
      go_enter Try.func58, Try.ntmps58
      go_wp2_with fail
      refine HC.out.mono ?_
      rintro e w1 ⟨rfl, hb1⟩
      have HB1 := Lib.hid hb1
      clear hb1
      generalize exL l n = x at *
      go_wp2_with fail
      refine (refMode_t mode _ HM.out).mono ?_
      rintro e w2 ⟨rfl, rfl⟩
      go_wp2_with fail
      refine (round_any x unit mode _ (by omega) (by omega) (by omega) (by omega) HM.out).mono ?_
      rintro e w2 ⟨rfl, hb2⟩
      have HB2 := Lib.hid hb2
      clear hb2
      go_wp2
      go_ret2
      exact retII_of HT.out.1.symm HT.out.2.1.symm (HB1.out.trans (HB2.out.mono HB1.out.size))
  · have HT := Lib.hid (tax_err (unit := unit) (mode := mode) h0)
    rw [HT.out.2.2] at HC
    have h0' : (chk l n != 0) = true := by simpa using h0
    clear h0
    go_enter Try.func58, Try.ntmps58
    go_wp2_with fail
    refine HC.out.mono ?_
    rintro e w1 ⟨rfl, hb1⟩
    have HB1 := Lib.hid hb1
    clear hb1
    go_wp2
    go_ret2
    exact retII_of HT.out.1.symm HT.out.2.1.symm HB1.out
end
end Go.Proofs.Ytcincmlpegnaiaa
