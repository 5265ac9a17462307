/-
  Chapter 40: contracts of Valid (both packages).
-/
import Derived.Test.YtolkdidcmingkaaDoorRun4
namespace Go.Proofs.YtolkdidcmingkaaDoor
open Go.RowKit
set_option linter.unusedVariables false
set_option linter.unusedSimpArgs false

def C0 : T3 := (0, 0, 0)
noncomputable def validB (s : Int) (E : List Int) (c : T3) : Bool :=
  if s = 1 then (E.length == 0) && eqC c C0 else if s = 2 then ascB E && eqC c C0 else if 3 ≤ s ∧ s ≤ 6 then ascB E && fitsB c E.length else false
noncomputable def validR (s : Int) (E : List Int) (c : T3) : Bool :=
  decide (1 ≤ s) && (decide (s ≤ 6) && (ctlB c && (decide (c.1 ≤ E.length) && (if s = 1 then (E.length == 0) && eqC c C0 else ascB E && ((s != 2) || eqC c C0)))))
theorem valid_eq (s : Int) (E : List Int) (c : T3) : validR s E c = validB s E c := by
  unfold validR validB
  by_cases h1 : s < 1
  · have a1 : decide (1 ≤ s) = false := by simp; omega
    rw [a1, Bool.false_and, if_neg (show ¬ s = 1 by omega), if_neg (show ¬ s = 2 by omega), if_neg (show ¬ (3 ≤ s ∧ s ≤ 6) by omega)]
  by_cases h6 : 6 < s
  · have a1 : decide (s ≤ 6) = false := by simp; omega
    rw [a1, Bool.false_and, Bool.and_false, if_neg (show ¬ s = 1 by omega), if_neg (show ¬ s = 2 by omega), if_neg (show ¬ (3 ≤ s ∧ s ≤ 6) by omega)]
  have a1 : decide (1 ≤ s) = true := by simp; omega
  have a2 : decide (s ≤ 6) = true := by simp; omega
  rw [a1, a2, Bool.true_and, Bool.true_and]
  cases hz : eqC c C0
  · by_cases s1 : s = 1
    · rw [if_pos s1, if_pos s1]; simp
    · by_cases s2 : s = 2
      · rw [if_neg s1, if_neg s1, if_pos s2]; subst s2; simp
      · have a3 : (s != 2) = true := by simpa using s2
        rw [if_neg s1, if_neg s1, if_neg s2, if_pos (by omega), a3]
        unfold fitsB
        cases ctlB c <;> cases ascB E <;> simp
  · have hc := (eqC_iff c C0).1 hz
    subst hc
    have a4 : ctlB C0 = true := ctl_zero
    have a5 : decide (C0.1 ≤ (E.length : Int)) = true := by simp [C0]
    rw [a4, a5]
    by_cases s1 : s = 1
    · rw [if_pos s1, if_pos s1]; simp
    · by_cases s2 : s = 2
      · rw [if_neg s1, if_neg s1, if_pos s2]; simp
      · rw [if_neg s1, if_neg s1, if_neg s2, if_pos (by omega)]
        unfold fitsB
        rw [a4, a5]; simp

set_option maxHeartbeats 1600000 in
theorem rvalid_any (s : Int) (A : Option Addr) (c B : Nat) (E : List Int) (d0 d1 d2 : Int) (w : World) (hr : RdI w B A E) (hB : B ≤ w.heap.size) (hl : E.length ≤ 9223372036854775807) : Calls Tryd.prog 11 #[.agg #[.int .i64 s, .slice A E.length c, .int .i64 d0, .int .i64 d1, .int .i64 d2]] w (RetB (validB s E (d0, d1, d2)) w) := by
  have HASC : Hid (∀ W, RB w 27 #[.int .i64 s, .slice A E.length c, .int .i64 d0, .int .i64 d1, .int .i64 d2] W → Calls Tryd.prog 25 #[.slice A E.length c] W (RetB (ascB E) W)) := Lib.hid (fun W h => ascending_any A c B E W (hr.below (h.below.mono hB)) (Nat.le_trans hB h.below.size) hl)
  have HRB := Lib.hid (RB.start w 27 #[.int .i64 s, .slice A E.length c, .int .i64 d0, .int .i64 d1, .int .i64 d2])
  have hce := run_eqC d0 d1 d2 0 0 0
  clear hr
  have HFIT : Hid (∀ W, RB w 27 #[.int .i64 s, .slice A E.length c, .int .i64 d0, .int .i64 d1, .int .i64 d2] W → Calls Tryd.prog 26 #[.agg #[.int .i64 d0, .int .i64 d1, .int .i64 d2], .int .i64 (E.length : Int)] W (RetB (fitsB (d0, d1, d2) E.length) W)) := Lib.hid (fun W h => fits_any d0 d1 d2 E.length W)
  have hs : s = 1 ∨ s = 2 ∨ s = 3 ∨ s = 4 ∨ s = 5 ∨ s = 6 ∨ (s < 1 ∨ 6 < s) := by omega
  rcases hs with rfl | rfl | rfl | rfl | rfl | rfl | hs
  · rcases Nat.eq_zero_or_pos E.length with h0 | h0
    · have HN : Hid (validB 1 E (d0, d1, d2) = eqC (d0, d1, d2) (0, 0, 0)) := Lib.hid (by unfold validB; rw [if_pos rfl, h0]; rfl)
      have e1 : ((E.length : Int) == 0) = true := by simp only [beq_iff_eq]; omega
      have e2 : (E.length == 0) = true := by simp only [beq_iff_eq]; omega
      generalize validB 1 E (d0, d1, d2) = vb at *
      generalize eqC (d0, d1, d2) (0, 0, 0) = z at *
      clear h0
      go_enter Tryd.func11, Tryd.ntmps11
      go_wp2
      go_ret
      exact retB_of HN.out.symm HRB.out.below
    · have HN : Hid (validB 1 E (d0, d1, d2) = false) := Lib.hid (by unfold validB; rw [if_pos rfl]; have : (E.length == 0) = false := by { simp only [beq_eq_false_iff_ne, ne_eq]; omega }; rw [this]; rfl)
      have e1 : ((E.length : Int) == 0) = false := by simp only [beq_eq_false_iff_ne, ne_eq]; omega
      have e2 : (E.length == 0) = false := by simp only [beq_eq_false_iff_ne, ne_eq]; omega
      go_enter Tryd.func11, Tryd.ntmps11
      go_wp2
      go_ret
      exact retB_of HN.out.symm HRB.out.below
  · have HN0 : Hid (validB 2 E (d0, d1, d2) = (ascB E && eqC (d0, d1, d2) (0, 0, 0))) := Lib.hid (by unfold validB; rw [if_neg (by omega), if_pos rfl]; rfl)
    generalize validB 2 E (d0, d1, d2) = vb at *
    generalize eqC (d0, d1, d2) (0, 0, 0) = z at *
    generalize ascB E = ab at *
    cases ab
    · have HN : Hid (vb = false) := Lib.hid (by rw [HN0.out]; simp)
      go_enter Tryd.func11, Tryd.ntmps11
      go_wp2_with fail
      refine (HASC.out _ HRB.out).mono ?_
      rintro e w1 ⟨rfl, hb⟩
      have HRB := Lib.hid (HRB.out.calc_ hb)
      clear hb
      go_wp2
      go_ret
      exact retB_of HN.out.symm HRB.out.below
    · have HN : Hid (vb = z) := Lib.hid (by rw [HN0.out]; simp)
      go_enter Tryd.func11, Tryd.ntmps11
      go_wp2_with fail
      refine (HASC.out _ HRB.out).mono ?_
      rintro e w1 ⟨rfl, hb⟩
      have HRB := Lib.hid (HRB.out.calc_ hb)
      clear hb
      have z0 := HRB.out.box.cell 0
      have z1 := HRB.out.box.cell 1
      have z2 := HRB.out.box.cell 2
      have z3 := HRB.out.box.cell 3
      have z4 := HRB.out.box.cell 4
      simp at z0 z1 z2 z3 z4
      go_wp2
      go_ret
      exact retB_of HN.out.symm HRB.out.below
  · have HN0 : Hid (validB 3 E (d0, d1, d2) = (ascB E && fitsB (d0, d1, d2) E.length)) := Lib.hid (by unfold validB; rw [if_neg (by omega), if_neg (by omega), if_pos (by omega)])
    generalize validB 3 E (d0, d1, d2) = vb at *
    generalize fitsB (d0, d1, d2) E.length = fb at *
    clear hce
    generalize ascB E = ab at *
    cases ab
    · have HN : Hid (vb = false) := Lib.hid (by rw [HN0.out]; simp)
      go_enter Tryd.func11, Tryd.ntmps11
      go_wp2_with fail
      refine (HASC.out _ HRB.out).mono ?_
      rintro e w1 ⟨rfl, hb⟩
      have HRB := Lib.hid (HRB.out.calc_ hb)
      clear hb
      go_wp2
      go_ret
      exact retB_of HN.out.symm HRB.out.below
    · have HN : Hid (vb = fb) := Lib.hid (by rw [HN0.out]; simp)
      go_enter Tryd.func11, Tryd.ntmps11
      go_wp2_with fail
      refine (HASC.out _ HRB.out).mono ?_
      rintro e w1 ⟨rfl, hb⟩
      have HRB := Lib.hid (HRB.out.calc_ hb)
      clear hb
      have z0 := HRB.out.box.cell 0
      have z1 := HRB.out.box.cell 1
      have z2 := HRB.out.box.cell 2
      have z3 := HRB.out.box.cell 3
      have z4 := HRB.out.box.cell 4
      simp at z0 z1 z2 z3 z4
      go_wp2_with fail
      refine (HFIT.out _ HRB.out).mono ?_
      rintro e w2 ⟨rfl, hb⟩
      have HRB := Lib.hid (HRB.out.calc_ hb)
      clear hb
      go_wp2
      go_ret
      exact retB_of HN.out.symm HRB.out.below
  · have HN0 : Hid (validB 4 E (d0, d1, d2) = (ascB E && fitsB (d0, d1, d2) E.length)) := Lib.hid (by unfold validB; rw [if_neg (by omega), if_neg (by omega), if_pos (by omega)])
    generalize validB 4 E (d0, d1, d2) = vb at *
    generalize fitsB (d0, d1, d2) E.length = fb at *
    clear hce
    generalize ascB E = ab at *
    cases ab
    · have HN : Hid (vb = false) := Lib.hid (by rw [HN0.out]; simp)
      go_enter Tryd.func11, Tryd.ntmps11
      go_wp2_with fail
      refine (HASC.out _ HRB.out).mono ?_
      rintro e w1 ⟨rfl, hb⟩
      have HRB := Lib.hid (HRB.out.calc_ hb)
      clear hb
      go_wp2
      go_ret
      exact retB_of HN.out.symm HRB.out.below
    · have HN : Hid (vb = fb) := Lib.hid (by rw [HN0.out]; simp)
      go_enter Tryd.func11, Tryd.ntmps11
      go_wp2_with fail
      refine (HASC.out _ HRB.out).mono ?_
      rintro e w1 ⟨rfl, hb⟩
      have HRB := Lib.hid (HRB.out.calc_ hb)
      clear hb
      have z0 := HRB.out.box.cell 0
      have z1 := HRB.out.box.cell 1
      have z2 := HRB.out.box.cell 2
      have z3 := HRB.out.box.cell 3
      have z4 := HRB.out.box.cell 4
      simp at z0 z1 z2 z3 z4
      go_wp2_with fail
      refine (HFIT.out _ HRB.out).mono ?_
      rintro e w2 ⟨rfl, hb⟩
      have HRB := Lib.hid (HRB.out.calc_ hb)
      clear hb
      go_wp2
      go_ret
      exact retB_of HN.out.symm HRB.out.below
  · have HN0 : Hid (validB 5 E (d0, d1, d2) = (ascB E && fitsB (d0, d1, d2) E.length)) := Lib.hid (by unfold validB; rw [if_neg (by omega), if_neg (by omega), if_pos (by omega)])
    generalize validB 5 E (d0, d1, d2) = vb at *
    generalize fitsB (d0, d1, d2) E.length = fb at *
    clear hce
    generalize ascB E = ab at *
    cases ab
    · have HN : Hid (vb = false) := Lib.hid (by rw [HN0.out]; simp)
      go_enter Tryd.func11, Tryd.ntmps11
      go_wp2_with fail
      refine (HASC.out _ HRB.out).mono ?_
      rintro e w1 ⟨rfl, hb⟩
      have HRB := Lib.hid (HRB.out.calc_ hb)
      clear hb
      go_wp2
      go_ret
      exact retB_of HN.out.symm HRB.out.below
    · have HN : Hid (vb = fb) := Lib.hid (by rw [HN0.out]; simp)
      go_enter Tryd.func11, Tryd.ntmps11
      go_wp2_with fail
      refine (HASC.out _ HRB.out).mono ?_
      rintro e w1 ⟨rfl, hb⟩
      have HRB := Lib.hid (HRB.out.calc_ hb)
      clear hb
      have z0 := HRB.out.box.cell 0
      have z1 := HRB.out.box.cell 1
      have z2 := HRB.out.box.cell 2
      have z3 := HRB.out.box.cell 3
      have z4 := HRB.out.box.cell 4
      simp at z0 z1 z2 z3 z4
      go_wp2_with fail
      refine (HFIT.out _ HRB.out).mono ?_
      rintro e w2 ⟨rfl, hb⟩
      have HRB := Lib.hid (HRB.out.calc_ hb)
      clear hb
      go_wp2
      go_ret
      exact retB_of HN.out.symm HRB.out.below
  · have HN0 : Hid (validB 6 E (d0, d1, d2) = (ascB E && fitsB (d0, d1, d2) E.length)) := Lib.hid (by unfold validB; rw [if_neg (by omega), if_neg (by omega), if_pos (by omega)])
    generalize validB 6 E (d0, d1, d2) = vb at *
    generalize fitsB (d0, d1, d2) E.length = fb at *
    clear hce
    generalize ascB E = ab at *
    cases ab
    · have HN : Hid (vb = false) := Lib.hid (by rw [HN0.out]; simp)
      go_enter Tryd.func11, Tryd.ntmps11
      go_wp2_with fail
      refine (HASC.out _ HRB.out).mono ?_
      rintro e w1 ⟨rfl, hb⟩
      have HRB := Lib.hid (HRB.out.calc_ hb)
      clear hb
      go_wp2
      go_ret
      exact retB_of HN.out.symm HRB.out.below
    · have HN : Hid (vb = fb) := Lib.hid (by rw [HN0.out]; simp)
      go_enter Tryd.func11, Tryd.ntmps11
      go_wp2_with fail
      refine (HASC.out _ HRB.out).mono ?_
      rintro e w1 ⟨rfl, hb⟩
      have HRB := Lib.hid (HRB.out.calc_ hb)
      clear hb
      have z0 := HRB.out.box.cell 0
      have z1 := HRB.out.box.cell 1
      have z2 := HRB.out.box.cell 2
      have z3 := HRB.out.box.cell 3
      have z4 := HRB.out.box.cell 4
      simp at z0 z1 z2 z3 z4
      go_wp2_with fail
      refine (HFIT.out _ HRB.out).mono ?_
      rintro e w2 ⟨rfl, hb⟩
      have HRB := Lib.hid (HRB.out.calc_ hb)
      clear hb
      go_wp2
      go_ret
      exact retB_of HN.out.symm HRB.out.below
  · have HN : Hid (validB s E (d0, d1, d2) = false) := Lib.hid (by unfold validB; rw [if_neg (by omega), if_neg (by omega), if_neg (by omega)])
    have t1 : (s == 1) = false := by simp only [beq_eq_false_iff_ne, ne_eq]; omega
    have t2 : (s == 2) = false := by simp only [beq_eq_false_iff_ne, ne_eq]; omega
    have t3 : (s == 3) = false := by simp only [beq_eq_false_iff_ne, ne_eq]; omega
    have t4 : (s == 4) = false := by simp only [beq_eq_false_iff_ne, ne_eq]; omega
    have t5 : (s == 5) = false := by simp only [beq_eq_false_iff_ne, ne_eq]; omega
    have t6 : (s == 6) = false := by simp only [beq_eq_false_iff_ne, ne_eq]; omega
    go_enter Tryd.func11, Tryd.ntmps11
    go_wp2
    go_ret
    exact retB_of HN.out.symm HRB.out.below

set_option maxHeartbeats 3200000 in
theorem refValid_any (s : Int) (A : Option Addr) (c B : Nat) (E : List Int) (d0 d1 d2 : Int) (w : World) (hr : RdI w B A E) (hB : B ≤ w.heap.size) (hl : E.length ≤ 9223372036854775807) : Calls Tryd.prog 22 #[.agg #[.int .i64 s, .slice A E.length c, .int .i64 d0, .int .i64 d1, .int .i64 d2]] w (RetB (validB s E (d0, d1, d2)) w) := by
  have HASC : Hid (∀ W, RB w 27 #[.int .i64 s, .slice A E.length c, .int .i64 d0, .int .i64 d1, .int .i64 d2] W → Calls Tryd.prog 33 #[.slice A E.length c] W (RetB (ascB E) W)) := Lib.hid (fun W h => employees_any A c B E W (hr.below (h.below.mono hB)) (Nat.le_trans hB h.below.size) hl)
  have HRB := Lib.hid (RB.start w 27 #[.int .i64 s, .slice A E.length c, .int .i64 d0, .int .i64 d1, .int .i64 d2])
  have hce := run_eqC d0 d1 d2 0 0 0
  clear hr
  have HCT : Hid (∀ W, RB w 27 #[.int .i64 s, .slice A E.length c, .int .i64 d0, .int .i64 d1, .int .i64 d2] W → Calls Tryd.prog 34 #[.agg #[.int .i64 d0, .int .i64 d1, .int .i64 d2]] W (RetB (ctlB (d0, d1, d2)) W)) := Lib.hid (fun W h => rvalidC d0 d1 d2 W)
  have HV : Hid (validB s E (d0, d1, d2) = validR s E (d0, d1, d2)) := Lib.hid (valid_eq s E _).symm
  unfold validR at HV
  generalize validB s E (d0, d1, d2) = vb at *
  change Hid (vb = (decide (1 ≤ s) && (decide (s ≤ 6) && (ctlB (d0, d1, d2) && (decide (d0 ≤ (E.length : Int)) && (if s = 1 then (E.length == 0) && eqC (d0, d1, d2) (0, 0, 0) else ascB E && ((s != 2) || eqC (d0, d1, d2) (0, 0, 0)))))))) at HV
  generalize eqC (d0, d1, d2) (0, 0, 0) = z at *
  generalize ctlB (d0, d1, d2) = cb at *
  generalize ascB E = ab at *
  have hs : s < 1 ∨ 6 < s ∨ (1 ≤ s ∧ s ≤ 6) := by omega
  rcases hs with hs | hs | ⟨hs1, hs6⟩
  · have t1 : decide (s < 1) = true := by simpa using hs
    have HN : Hid (vb = false) := Lib.hid (by have : decide (1 ≤ s) = false := (by simp; omega); rw [HV.out, this]; rfl)
    go_enter Tryd.func22, Tryd.ntmps22
    go_wp2
    go_ret
    exact retB_of HN.out.symm HRB.out.below
  · have t1 : decide (s < 1) = false := by simp; omega
    have t2 : decide (6 < s) = true := by simpa using hs
    have HN : Hid (vb = false) := Lib.hid (by have : decide (s ≤ 6) = false := (by simp; omega); rw [HV.out, this]; simp)
    go_enter Tryd.func22, Tryd.ntmps22
    go_wp2
    go_ret
    exact retB_of HN.out.symm HRB.out.below
  · have t1 : decide (s < 1) = false := by simp; omega
    have t2 : decide (6 < s) = false := by simp; omega
    have HV2 : Hid (vb = (cb && (decide (d0 ≤ (E.length : Int)) && (if s = 1 then (E.length == 0) && z else ab && ((s != 2) || z))))) := Lib.hid (by have a1 : decide (1 ≤ s) = true := (by simpa using hs1); have a2 : decide (s ≤ 6) = true := (by simpa using hs6); rw [HV.out, a1, a2]; rfl)
    clear HV
    cases cb
    · have HN : Hid (vb = false) := Lib.hid (by rw [HV2.out]; rfl)
      go_enter Tryd.func22, Tryd.ntmps22
      go_wp2_with fail
      refine (HCT.out _ HRB.out).mono ?_
      rintro e w1 ⟨rfl, hb⟩
      have HRB := Lib.hid (HRB.out.calc_ hb)
      clear hb
      go_wp2
      go_ret
      exact retB_of HN.out.symm HRB.out.below
    · by_cases hcl : (E.length : Int) < d0
      · have t3 : decide ((E.length : Int) < d0) = true := by simpa using hcl
        have HN : Hid (vb = false) := Lib.hid (by have a1 : decide (d0 ≤ (E.length : Int)) = false := (by simp; omega); rw [HV2.out, a1]; rfl)
        go_enter Tryd.func22, Tryd.ntmps22
        go_wp2_with fail
        refine (HCT.out _ HRB.out).mono ?_
        rintro e w1 ⟨rfl, hb⟩
        have HRB := Lib.hid (HRB.out.calc_ hb)
        clear hb
        have z0 := HRB.out.box.cell 0
        have z1 := HRB.out.box.cell 1
        have z2 := HRB.out.box.cell 2
        have z3 := HRB.out.box.cell 3
        have z4 := HRB.out.box.cell 4
        simp at z0 z1 z2 z3 z4
        go_wp2
        go_ret
        exact retB_of HN.out.symm HRB.out.below
      · have t3 : decide ((E.length : Int) < d0) = false := by simpa using hcl
        have HV3 : Hid (vb = (if s = 1 then (E.length == 0) && z else ab && ((s != 2) || z))) := Lib.hid (by have a1 : decide (d0 ≤ (E.length : Int)) = true := (by simp; omega); rw [HV2.out, a1]; simp)
        clear HV2
        by_cases s1 : s = 1
        · have t4 : (s == 1) = true := by simpa using s1
          rcases Nat.eq_zero_or_pos E.length with h0 | h0
          · have HN : Hid (vb = z) := Lib.hid (by rw [HV3.out, if_pos s1, h0]; rfl)
            have e1 : ((E.length : Int) == 0) = true := by simp only [beq_iff_eq]; omega
            have e2 : (E.length == 0) = true := by simp only [beq_iff_eq]; omega
            clear s1 h0
            go_enter Tryd.func22, Tryd.ntmps22
            go_wp2_with fail
            refine (HCT.out _ HRB.out).mono ?_
            rintro e w1 ⟨rfl, hb⟩
            have HRB := Lib.hid (HRB.out.calc_ hb)
            clear hb
            have z0 := HRB.out.box.cell 0
            have z1 := HRB.out.box.cell 1
            have z2 := HRB.out.box.cell 2
            have z3 := HRB.out.box.cell 3
            have z4 := HRB.out.box.cell 4
            simp at z0 z1 z2 z3 z4
            go_wp2
            go_ret
            exact retB_of HN.out.symm HRB.out.below
          · have e2 : (E.length == 0) = false := by simp only [beq_eq_false_iff_ne, ne_eq]; omega
            have HN : Hid (vb = false) := Lib.hid (by rw [HV3.out, if_pos s1, e2]; rfl)
            have e1 : ((E.length : Int) == 0) = false := by simp only [beq_eq_false_iff_ne, ne_eq]; omega
            clear s1
            go_enter Tryd.func22, Tryd.ntmps22
            go_wp2_with fail
            refine (HCT.out _ HRB.out).mono ?_
            rintro e w1 ⟨rfl, hb⟩
            have HRB := Lib.hid (HRB.out.calc_ hb)
            clear hb
            have z0 := HRB.out.box.cell 0
            have z1 := HRB.out.box.cell 1
            have z2 := HRB.out.box.cell 2
            have z3 := HRB.out.box.cell 3
            have z4 := HRB.out.box.cell 4
            simp at z0 z1 z2 z3 z4
            go_wp2
            go_ret
            exact retB_of HN.out.symm HRB.out.below
        · have t4 : (s == 1) = false := by simpa using s1
          have HV4 : Hid (vb = (ab && ((s != 2) || z))) := Lib.hid (by rw [HV3.out, if_neg s1])
          clear HV3
          cases ab
          · have HN : Hid (vb = false) := Lib.hid (by rw [HV4.out]; rfl)
            go_enter Tryd.func22, Tryd.ntmps22
            go_wp2_with fail
            refine (HCT.out _ HRB.out).mono ?_
            rintro e w1 ⟨rfl, hb⟩
            have HRB := Lib.hid (HRB.out.calc_ hb)
            clear hb
            have z0 := HRB.out.box.cell 0
            have z1 := HRB.out.box.cell 1
            have z2 := HRB.out.box.cell 2
            have z3 := HRB.out.box.cell 3
            have z4 := HRB.out.box.cell 4
            simp at z0 z1 z2 z3 z4
            go_wp2_with fail
            refine (HASC.out _ HRB.out).mono ?_
            rintro e w2 ⟨rfl, hb⟩
            have HRB := Lib.hid (HRB.out.calc_ hb)
            clear hb
            go_wp2
            go_ret
            exact retB_of HN.out.symm HRB.out.below
          · by_cases s2 : s = 2
            · have t5 : (s != 2) = false := by simpa using s2
              have HN : Hid (vb = z) := Lib.hid (by rw [HV4.out, t5]; rfl)
              clear s2
              go_enter Tryd.func22, Tryd.ntmps22
              go_wp2_with fail
              refine (HCT.out _ HRB.out).mono ?_
              rintro e w1 ⟨rfl, hb⟩
              have HRB := Lib.hid (HRB.out.calc_ hb)
              clear hb
              have z0 := HRB.out.box.cell 0
              have z1 := HRB.out.box.cell 1
              have z2 := HRB.out.box.cell 2
              have z3 := HRB.out.box.cell 3
              have z4 := HRB.out.box.cell 4
              simp at z0 z1 z2 z3 z4
              go_wp2_with fail
              refine (HASC.out _ HRB.out).mono ?_
              rintro e w2 ⟨rfl, hb⟩
              have HRB := Lib.hid (HRB.out.calc_ hb)
              clear hb
              clear z0 z1 z2 z3 z4
              have z0 := HRB.out.box.cell 0
              have z1 := HRB.out.box.cell 1
              have z2 := HRB.out.box.cell 2
              have z3 := HRB.out.box.cell 3
              have z4 := HRB.out.box.cell 4
              simp at z0 z1 z2 z3 z4
              go_wp2
              go_ret
              exact retB_of HN.out.symm HRB.out.below
            · have t5 : (s != 2) = true := by simpa using s2
              have HN : Hid (vb = true) := Lib.hid (by rw [HV4.out, t5]; rfl)
              go_enter Tryd.func22, Tryd.ntmps22
              go_wp2_with fail
              refine (HCT.out _ HRB.out).mono ?_
              rintro e w1 ⟨rfl, hb⟩
              have HRB := Lib.hid (HRB.out.calc_ hb)
              clear hb
              have z0 := HRB.out.box.cell 0
              have z1 := HRB.out.box.cell 1
              have z2 := HRB.out.box.cell 2
              have z3 := HRB.out.box.cell 3
              have z4 := HRB.out.box.cell 4
              simp at z0 z1 z2 z3 z4
              go_wp2_with fail
              refine (HASC.out _ HRB.out).mono ?_
              rintro e w2 ⟨rfl, hb⟩
              have HRB := Lib.hid (HRB.out.calc_ hb)
              clear hb
              clear z0 z1 z2 z3 z4
              have z0 := HRB.out.box.cell 0
              have z1 := HRB.out.box.cell 1
              have z2 := HRB.out.box.cell 2
              have z3 := HRB.out.box.cell 3
              have z4 := HRB.out.box.cell 4
              simp at z0 z1 z2 z3 z4
              go_wp2
              go_ret
              exact retB_of HN.out.symm HRB.out.below
end Go.Proofs.YtolkdidcmingkaaDoor
