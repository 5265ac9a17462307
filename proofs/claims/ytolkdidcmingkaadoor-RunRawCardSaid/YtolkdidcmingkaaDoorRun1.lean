/-
  Chapter 40, leaves: contracts of control.valid, ValidControl, control.Add (of a zero), fits, ascending, employees, slices.Clone, Deck.Left.
-/
import Derived.Test.YtolkdidcmingkaaDoorDeck0
import Derived.Test.YtolkdidcmingkaaDoorRet
import Derived.Test.YtolkdidcmingkaaDoorTriple
import Derived.Test.YtolkdidcmingkaaDoorAppRd
import Derived.Laws.StructEq
namespace Go.Proofs.YtolkdidcmingkaaDoor
open Go.RowKit
set_option linter.unusedVariables false
set_option linter.unusedSimpArgs false

/-- control totals that are valid -/
def Ctl (c : T3) : Prop := 0 ≤ c.1 ∧ c.1 ≤ 1048576 ∧ c.1 ≤ c.2.1 ∧ c.2.1 ≤ c.1 * 1000000000000 ∧ c.1 ≤ c.2.2 ∧ c.2.2 ≤ c.1 * 1000000000000
noncomputable def ctlB (c : T3) : Bool := @decide (Ctl c) (Classical.propDecidable _)
theorem ctl_t {c : T3} (h : Ctl c) : ctlB c = true := by unfold ctlB; exact @decide_eq_true _ (Classical.propDecidable _) h
theorem ctl_f {c : T3} (h : ¬ Ctl c) : ctlB c = false := by unfold ctlB; exact @decide_eq_false _ (Classical.propDecidable _) h
theorem ctl_of {c : T3} (h : ctlB c = true) : Ctl c := by unfold ctlB at h; exact @of_decide_eq_true _ (Classical.propDecidable _) h
theorem ctl_zero : ctlB (0, 0, 0) = true := ctl_t ⟨by decide, by decide, by decide, by decide, by decide, by decide⟩
def ctlV (c : T3) : Value := .agg #[.int .i64 c.1, .int .i64 c.2.1, .int .i64 c.2.2]
theorem Blk.new' {w : World} {g : Nat} {t : TypeId} {cs : Array Value} (hg : g = w.heap.size) : Blk (w.alloc (.cells cs t)) g t cs := hg ▸ Blk.new w t cs
theorem bcl {B b o : Nat} {w w' : World} (h : Below B w w') (hb : b < B) : w'.cell? ⟨b, o, none⟩ = w.cell? ⟨b, o, none⟩ := h.cell hb
theorem bfr {B b o : Nat} {w w' : World} (h : Below B w w') (hb : b < B) : w'.frozen? ⟨b, o, none⟩ = w.frozen? ⟨b, o, none⟩ := h.frozen (p := ⟨b, o, none⟩) hb
theorem retB_of {b b' : Bool} {w w' : World} (h : b = b') (hb : Below w.heap.size w w') : RetB b' w (.returned (.bool b)) w' := by subst h; exact ⟨rfl, hb⟩

set_option maxHeartbeats 800000 in
theorem cvalidC (c0 c1 c2 : Int) (w : World) : Calls Tryd.prog 36 #[.agg #[.int .i64 c0, .int .i64 c1, .int .i64 c2]] w (RetB (ctlB (c0, c1, c2)) w) := by
  have HA : Hid (∀ ob, Below w.heap.size w (w.alloc ob)) := Lib.hid (fun ob => (Below.refl _ _).alloc (Nat.le_refl _) ob)
  rcases bool_cases (c0 < 0) with t0 | t0
  · have HN : Hid (ctlB (c0, c1, c2) = false) := Lib.hid (ctl_f (by intro h; obtain ⟨g0, g1, g2, g3, g4, g5⟩ := h; dsimp only at *; simp at t0; omega))
    go_enter Tryd.func36, Tryd.ntmps36
    go_wp2
    go_ret
    exact retB_of HN.out.symm (HA.out _)
  · skip
    rcases bool_cases (1048576 < c0) with t1 | t1
    · have HN : Hid (ctlB (c0, c1, c2) = false) := Lib.hid (ctl_f (by intro h; obtain ⟨g0, g1, g2, g3, g4, g5⟩ := h; dsimp only at *; simp at t0 t1; omega))
      have u0 : 0 ≤ c0 := by simp at t0; omega
      go_enter Tryd.func36, Tryd.ntmps36
      go_wp2
      go_ret
      exact retB_of HN.out.symm (HA.out _)
    · skip
      rcases bool_cases (c0 ≤ c1) with t2 | t2
      rotate_left
      · have HN : Hid (ctlB (c0, c1, c2) = false) := Lib.hid (ctl_f (by intro h; obtain ⟨g0, g1, g2, g3, g4, g5⟩ := h; dsimp only at *; simp at t0 t1 t2; omega))
        have u0 : 0 ≤ c0 := by simp at t0; omega
        have u1 : c0 ≤ 1048576 := by simp at t1; omega
        go_enter Tryd.func36, Tryd.ntmps36
        go_wp2
        go_ret
        exact retB_of HN.out.symm (HA.out _)
      · skip
        rcases bool_cases (c1 ≤ c0 * 1000000000000) with t3 | t3
        rotate_left
        · have HN : Hid (ctlB (c0, c1, c2) = false) := Lib.hid (ctl_f (by intro h; obtain ⟨g0, g1, g2, g3, g4, g5⟩ := h; dsimp only at *; simp at t0 t1 t2 t3; omega))
          have u0 : 0 ≤ c0 := by simp at t0; omega
          have u1 : c0 ≤ 1048576 := by simp at t1; omega
          have u2 : c0 ≤ c1 := by simp at t2; omega
          go_enter Tryd.func36, Tryd.ntmps36
          go_wp2
          go_ret
          exact retB_of HN.out.symm (HA.out _)
        · skip
          rcases bool_cases (c0 ≤ c2) with t4 | t4
          rotate_left
          · have HN : Hid (ctlB (c0, c1, c2) = false) := Lib.hid (ctl_f (by intro h; obtain ⟨g0, g1, g2, g3, g4, g5⟩ := h; dsimp only at *; simp at t0 t1 t2 t3 t4; omega))
            have u0 : 0 ≤ c0 := by simp at t0; omega
            have u1 : c0 ≤ 1048576 := by simp at t1; omega
            have u2 : c0 ≤ c1 := by simp at t2; omega
            have u3 : c1 ≤ c0 * 1000000000000 := by simp at t3; omega
            go_enter Tryd.func36, Tryd.ntmps36
            go_wp2
            go_ret
            exact retB_of HN.out.symm (HA.out _)
          · skip
            rcases bool_cases (c2 ≤ c0 * 1000000000000) with t5 | t5
            rotate_left
            · have HN : Hid (ctlB (c0, c1, c2) = false) := Lib.hid (ctl_f (by intro h; obtain ⟨g0, g1, g2, g3, g4, g5⟩ := h; dsimp only at *; simp at t0 t1 t2 t3 t4 t5; omega))
              have u0 : 0 ≤ c0 := by simp at t0; omega
              have u1 : c0 ≤ 1048576 := by simp at t1; omega
              have u2 : c0 ≤ c1 := by simp at t2; omega
              have u3 : c1 ≤ c0 * 1000000000000 := by simp at t3; omega
              have u4 : c0 ≤ c2 := by simp at t4; omega
              go_enter Tryd.func36, Tryd.ntmps36
              go_wp2
              go_ret
              exact retB_of HN.out.symm (HA.out _)
            · skip
              have HN : Hid (ctlB (c0, c1, c2) = true) := Lib.hid (ctl_t (by refine ⟨?_, ?_, ?_, ?_, ?_, ?_⟩ <;> (dsimp only; simp at t0 t1 t2 t3 t4 t5; omega)))
              have u0 : 0 ≤ c0 := by simp at t0; omega
              have u1 : c0 ≤ 1048576 := by simp at t1; omega
              have u2 : c0 ≤ c1 := by simp at t2; omega
              have u3 : c1 ≤ c0 * 1000000000000 := by simp at t3; omega
              have u4 : c0 ≤ c2 := by simp at t4; omega
              have u5 : c2 ≤ c0 * 1000000000000 := by simp at t5; omega
              go_enter Tryd.func36, Tryd.ntmps36
              go_wp2
              go_ret
              exact retB_of HN.out.symm (HA.out _)
set_option maxHeartbeats 800000 in
theorem rvalidC (c0 c1 c2 : Int) (w : World) : Calls Tryd.prog 34 #[.agg #[.int .i64 c0, .int .i64 c1, .int .i64 c2]] w (RetB (ctlB (c0, c1, c2)) w) := by
  have HA : Hid (∀ ob, Below w.heap.size w (w.alloc ob)) := Lib.hid (fun ob => (Below.refl _ _).alloc (Nat.le_refl _) ob)
  rcases bool_cases (0 ≤ c0) with t0 | t0
  rotate_left
  · have HN : Hid (ctlB (c0, c1, c2) = false) := Lib.hid (ctl_f (by intro h; obtain ⟨g0, g1, g2, g3, g4, g5⟩ := h; dsimp only at *; simp at t0; omega))
    go_enter Tryd.func34, Tryd.ntmps34
    go_wp2
    go_ret
    exact retB_of HN.out.symm (HA.out _)
  · skip
    rcases bool_cases (c0 ≤ 1048576) with t1 | t1
    rotate_left
    · have HN : Hid (ctlB (c0, c1, c2) = false) := Lib.hid (ctl_f (by intro h; obtain ⟨g0, g1, g2, g3, g4, g5⟩ := h; dsimp only at *; simp at t0 t1; omega))
      have u0 : 0 ≤ c0 := by simp at t0; omega
      go_enter Tryd.func34, Tryd.ntmps34
      go_wp2
      go_ret
      exact retB_of HN.out.symm (HA.out _)
    · skip
      rcases bool_cases (c0 ≤ c1) with t2 | t2
      rotate_left
      · have HN : Hid (ctlB (c0, c1, c2) = false) := Lib.hid (ctl_f (by intro h; obtain ⟨g0, g1, g2, g3, g4, g5⟩ := h; dsimp only at *; simp at t0 t1 t2; omega))
        have u0 : 0 ≤ c0 := by simp at t0; omega
        have u1 : c0 ≤ 1048576 := by simp at t1; omega
        go_enter Tryd.func34, Tryd.ntmps34
        go_wp2
        go_ret
        exact retB_of HN.out.symm (HA.out _)
      · skip
        rcases bool_cases (c1 ≤ c0 * 1000000000000) with t3 | t3
        rotate_left
        · have HN : Hid (ctlB (c0, c1, c2) = false) := Lib.hid (ctl_f (by intro h; obtain ⟨g0, g1, g2, g3, g4, g5⟩ := h; dsimp only at *; simp at t0 t1 t2 t3; omega))
          have u0 : 0 ≤ c0 := by simp at t0; omega
          have u1 : c0 ≤ 1048576 := by simp at t1; omega
          have u2 : c0 ≤ c1 := by simp at t2; omega
          go_enter Tryd.func34, Tryd.ntmps34
          go_wp2
          go_ret
          exact retB_of HN.out.symm (HA.out _)
        · skip
          rcases bool_cases (c0 ≤ c2) with t4 | t4
          rotate_left
          · have HN : Hid (ctlB (c0, c1, c2) = false) := Lib.hid (ctl_f (by intro h; obtain ⟨g0, g1, g2, g3, g4, g5⟩ := h; dsimp only at *; simp at t0 t1 t2 t3 t4; omega))
            have u0 : 0 ≤ c0 := by simp at t0; omega
            have u1 : c0 ≤ 1048576 := by simp at t1; omega
            have u2 : c0 ≤ c1 := by simp at t2; omega
            have u3 : c1 ≤ c0 * 1000000000000 := by simp at t3; omega
            go_enter Tryd.func34, Tryd.ntmps34
            go_wp2
            go_ret
            exact retB_of HN.out.symm (HA.out _)
          · skip
            rcases bool_cases (c2 ≤ c0 * 1000000000000) with t5 | t5
            rotate_left
            · have HN : Hid (ctlB (c0, c1, c2) = false) := Lib.hid (ctl_f (by intro h; obtain ⟨g0, g1, g2, g3, g4, g5⟩ := h; dsimp only at *; simp at t0 t1 t2 t3 t4 t5; omega))
              have u0 : 0 ≤ c0 := by simp at t0; omega
              have u1 : c0 ≤ 1048576 := by simp at t1; omega
              have u2 : c0 ≤ c1 := by simp at t2; omega
              have u3 : c1 ≤ c0 * 1000000000000 := by simp at t3; omega
              have u4 : c0 ≤ c2 := by simp at t4; omega
              go_enter Tryd.func34, Tryd.ntmps34
              go_wp2
              go_ret
              exact retB_of HN.out.symm (HA.out _)
            · skip
              have HN : Hid (ctlB (c0, c1, c2) = true) := Lib.hid (ctl_t (by refine ⟨?_, ?_, ?_, ?_, ?_, ?_⟩ <;> (dsimp only; simp at t0 t1 t2 t3 t4 t5; omega)))
              have u0 : 0 ≤ c0 := by simp at t0; omega
              have u1 : c0 ≤ 1048576 := by simp at t1; omega
              have u2 : c0 ≤ c1 := by simp at t2; omega
              have u3 : c1 ≤ c0 * 1000000000000 := by simp at t3; omega
              have u4 : c0 ≤ c2 := by simp at t4; omega
              have u5 : c2 ≤ c0 * 1000000000000 := by simp at t5; omega
              go_enter Tryd.func34, Tryd.ntmps34
              go_wp2
              go_ret
              exact retB_of HN.out.symm (HA.out _)

/-- what Add returns for totals and a zero -/
def AddPost (c : T3) (w : World) (e : Ending) (w' : World) : Prop := (∃ x, e = .returned (.tuple #[x, .int .i64 (if ctlB c then 0 else 1)]) ∧ ∃ a b d : Int, x = .agg #[.int .i64 a, .int .i64 b, .int .i64 d]) ∧ Below w.heap.size w w'
set_option maxHeartbeats 1600000 in
theorem add_zero' (c0 c1 c2 : Int) (w : World) : Calls Tryd.prog 35 #[.agg #[.int .i64 c0, .int .i64 c1, .int .i64 c2], .agg #[.int .i64 0, .int .i64 0, .int .i64 0]] w (AddPost (c0, c1, c2) w) := by
  have HA : Hid (∀ o1 o2 o3, Below w.heap.size w (((w.alloc o1).alloc o2).alloc o3)) := Lib.hid (fun o1 o2 o3 => (((Below.refl _ _).alloc (Nat.le_refl _) o1).alloc (by simp) o2).alloc (by simp; omega) o3)
  have HZ : Hid (∀ W, Calls Tryd.prog 36 #[.agg #[.int .i64 0, .int .i64 0, .int .i64 0]] W (RetB true W)) := Lib.hid (fun W => by have := cvalidC 0 0 0 W; rwa [ctl_zero] at this)
  by_cases hc : ctlB (c0, c1, c2) = true
  · have HC : Hid (∀ W, Calls Tryd.prog 36 #[.agg #[.int .i64 c0, .int .i64 c1, .int .i64 c2]] W (RetB true W)) := Lib.hid (fun W => by have := cvalidC c0 c1 c2 W; rwa [hc] at this)
    have HE : Hid ((if ctlB (c0, c1, c2) then (0 : Int) else 1) = 0) := Lib.hid (by rw [hc]; rfl)
    obtain ⟨b0, b1, b2, b3, b4, b5⟩ := ctl_of hc
    dsimp only at b0 b1 b2 b3 b4 b5
    clear hc
    go_enter Tryd.func35, Tryd.ntmps35
    go_wp2_with fail
    refine (HC.out _).mono ?_
    rintro e w1 ⟨rfl, hb1⟩
    have HB1 := Lib.hid ((HA.out _ _ _).trans (hb1.mono (by simp; omega)))
    have X := ((((Blk.new w 25 #[.int .i64 c0, .int .i64 c1, .int .i64 c2]).alloc _).alloc _)).below hb1 (by simp; omega)
    have Y := (((Blk.new' (w := w.alloc _) (g := w.heap.size + 1) (t := 25) (cs := #[.int .i64 0, .int .i64 0, .int .i64 0]) (by simp)).alloc _)).below hb1 (by simp)
    have R := (Blk.new' (w := (w.alloc _).alloc _) (g := w.heap.size + 2) (t := 25) (cs := #[.int .i64 0, .int .i64 0, .int .i64 0]) (by simp)).below hb1 (by simp)
    have HX := Lib.hid X
    have HY := Lib.hid Y
    have HR := Lib.hid R
    have hs1 := hb1.size
    simp at hs1
    clear hb1 X Y R
    have y0 := HY.out.cell 0
    have y1 := HY.out.cell 1
    have y2 := HY.out.cell 2
    simp at y0 y1 y2
    go_wp2_with fail
    refine (HZ.out _).mono ?_
    rintro e w2 ⟨rfl, hb2⟩
    have HB2 := Lib.hid (HB1.out.trans (hb2.mono (by omega)))
    have HX := Lib.hid (HX.out.below hb2 (by omega))
    have HY := Lib.hid (HY.out.below hb2 (by omega))
    have HR := Lib.hid (HR.out.below hb2 (by omega))
    have hs2 := hb2.size
    clear hb2 y0 y1 y2
    have x0 := HX.out.cell 0
    have x1 := HX.out.cell 1
    have x2 := HX.out.cell 2
    have y0 := HY.out.cell 0
    have y1 := HY.out.cell 1
    have y2 := HY.out.cell 2
    simp at x0 x1 x2 y0 y1 y2
    go_wp2_with fail
    refine (HC.out _).mono ?_
    rintro e w3 ⟨rfl, hb3⟩
    have hs3 := hb3.size
    simp at hs3
    have HB3 := Lib.hid ((HB2.out.alloc (by omega) _).trans (hb3.mono (by simp; omega)))
    have HS := Lib.hid ((Blk.new w2 25 #[.int .i64 c0, .int .i64 c1, .int .i64 c2]).below hb3 (by simp))
    have HR := Lib.hid ((HR.out.alloc _).below hb3 (by simp; omega))
    clear hb3 x0 x1 x2 y0 y1 y2
    have x0 := HS.out.cell 0
    have x1 := HS.out.cell 1
    have x2 := HS.out.cell 2
    have r0 := HR.out.cell 0
    have r1 := HR.out.cell 1
    have r2 := HR.out.cell 2
    have rf0 := HR.out.frozen 0
    have rf1 := HR.out.frozen 1
    have rf2 := HR.out.frozen 2
    simp at x0 x1 x2 r0 r1 r2
    go_wp2
    refine bodyPost_ret (v := .tuple #[.agg #[.int .i64 c0, .int .i64 c1, .int .i64 c2], .int .i64 0]) (by simp [results, Tryd.results35, go_sem, r0, r1, r2]) rfl ⟨⟨_, by rw [HE.out], _, _, _, rfl⟩, ?_⟩
    exact (((HB3.out.setCell (p := ⟨w.heap.size + 2, 0, none⟩) (by show w.heap.size ≤ w.heap.size + 2; omega) _).setCell (p := ⟨w.heap.size + 2, 1, none⟩) (by show w.heap.size ≤ w.heap.size + 2; omega) _).setCell (p := ⟨w.heap.size + 2, 2, none⟩) (by show w.heap.size ≤ w.heap.size + 2; omega) _)
  · have hcf : ctlB (c0, c1, c2) = false := by simpa using hc
    have HC : Hid (∀ W, Calls Tryd.prog 36 #[.agg #[.int .i64 c0, .int .i64 c1, .int .i64 c2]] W (RetB false W)) := Lib.hid (fun W => by have := cvalidC c0 c1 c2 W; rwa [hcf] at this)
    have HE : Hid ((if ctlB (c0, c1, c2) then (0 : Int) else 1) = 1) := Lib.hid (by rw [hcf]; rfl)
    clear hc hcf
    go_enter Tryd.func35, Tryd.ntmps35
    go_wp2_with fail
    refine (HC.out _).mono ?_
    rintro e w1 ⟨rfl, hb1⟩
    have HB1 := Lib.hid ((HA.out _ _ _).trans (hb1.mono (by simp; omega)))
    have HR := Lib.hid ((Blk.new' (w := (w.alloc _).alloc _) (g := w.heap.size + 2) (t := 25) (cs := #[.int .i64 0, .int .i64 0, .int .i64 0]) (by simp)).below hb1 (by simp))
    clear hb1
    have r0 := HR.out.cell 0
    have r1 := HR.out.cell 1
    have r2 := HR.out.cell 2
    have rf0 := HR.out.frozen 0
    have rf1 := HR.out.frozen 1
    have rf2 := HR.out.frozen 2
    simp at r0 r1 r2
    go_wp2
    refine bodyPost_ret (v := .tuple #[.agg #[.int .i64 0, .int .i64 0, .int .i64 0], .int .i64 1]) (by simp [results, Tryd.results35, go_sem, r0, r1, r2]) rfl ⟨⟨_, by rw [HE.out], _, _, _, rfl⟩, ?_⟩
    exact (((HB1.out.setCell (p := ⟨w.heap.size + 2, 0, none⟩) (by show w.heap.size ≤ w.heap.size + 2; omega) _).setCell (p := ⟨w.heap.size + 2, 1, none⟩) (by show w.heap.size ≤ w.heap.size + 2; omega) _).setCell (p := ⟨w.heap.size + 2, 2, none⟩) (by show w.heap.size ≤ w.heap.size + 2; omega) _)

noncomputable def fitsB (c : T3) (n : Int) : Bool := ctlB c && decide (c.1 ≤ n)
set_option maxHeartbeats 800000 in
theorem fits_any (c0 c1 c2 n : Int) (w : World) : Calls Tryd.prog 26 #[.agg #[.int .i64 c0, .int .i64 c1, .int .i64 c2], .int .i64 n] w (RetB (fitsB (c0, c1, c2) n) w) := by
  have HA : Hid (∀ ob, Below w.heap.size w (w.alloc ob)) := Lib.hid (fun ob => (Below.refl _ _).alloc (Nat.le_refl _) ob)
  have HC := Lib.hid (add_zero' c0 c1 c2)
  have HF : Hid (fitsB (c0, c1, c2) n = (ctlB (c0, c1, c2) && decide (c0 ≤ n))) := Lib.hid rfl
  go_enter Tryd.func26, Tryd.ntmps26
  go_wp2_with fail
  refine (HC.out _).mono ?_
  rintro e w1 ⟨⟨x, rfl, a, b, d, rfl⟩, hb1⟩
  have HB1 := Lib.hid ((HA.out _).trans (hb1.mono (by simp)))
  have HX := Lib.hid ((Blk.new w 25 #[.int .i64 c0, .int .i64 c1, .int .i64 c2]).below hb1 (by simp))
  have hs1 := hb1.size
  simp at hs1
  have hlt : w.heap.size < w1.heap.size := by omega
  have x0 := HX.out.cell 0
  simp at x0
  clear hb1
  cases hc : ctlB (c0, c1, c2)
  · rw [hc] at HF
    have e1 : (if false = true then (0 : Int) else 1) = 1 := rfl
    rw [e1]
    clear hc e1
    go_wp2
    go_ret
    exact retB_of HF.out.symm (HB1.out.alloc (by omega) _)
  · rw [hc] at HF
    have e1 : (if true = true then (0 : Int) else 1) = 0 := rfl
    rw [e1]
    clear hc e1
    go_wp2
    go_ret
    exact retB_of HF.out.symm (HB1.out.alloc (by omega) _)
end Go.Proofs.YtolkdidcmingkaaDoor
