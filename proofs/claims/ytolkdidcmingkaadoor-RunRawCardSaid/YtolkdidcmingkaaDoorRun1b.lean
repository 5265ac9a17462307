/-
  Chapter 40, leaves: contracts of ascending, employees, slices.Clone, Deck.Left.
-/
import Derived.Test.YtolkdidcmingkaaDoorRun1
namespace Go.Proofs.YtolkdidcmingkaaDoor
open Go.RowKit
set_option linter.unusedVariables false
set_option linter.unusedSimpArgs false

/-- element i of a list of employees is in its place -/
def okE (l : List Int) (i : Nat) : Prop := 1 ≤ at1 l i ∧ at1 l i ≤ 2147483647 ∧ (0 < i → at1 l (i - 1) < at1 l i)
def Asc (l : List Int) : Prop := 1 ≤ l.length ∧ l.length ≤ 4096 ∧ ∀ i, i < l.length → okE l i
noncomputable def ascB (l : List Int) : Bool := @decide (Asc l) (Classical.propDecidable _)
theorem asc_t {l : List Int} (h : Asc l) : ascB l = true := by unfold ascB; exact @decide_eq_true _ (Classical.propDecidable _) h
theorem asc_f {l : List Int} (h : ¬ Asc l) : ascB l = false := by unfold ascB; exact @decide_eq_false _ (Classical.propDecidable _) h
theorem asc_of {l : List Int} (h : ascB l = true) : Asc l := by unfold ascB at h; exact @of_decide_eq_true _ (Classical.propDecidable _) h
def OkTo (l : List Int) (k : Nat) : Prop := ∀ i, i < k → okE l i
theorem okTo_next {l : List Int} {k : Nat} (h : OkTo l k) (hk : okE l k) : OkTo l (k + 1) := fun i hi => by
  by_cases e : i = k
  · subst e; exact hk
  · exact h i (by omega)
theorem bad_at {l : List Int} {k : Nat} (hk : k < l.length) (h : ¬ okE l k) : ascB l = false := asc_f (fun ha => h (ha.2.2 k hk))

set_option maxHeartbeats 1600000 in
theorem ascending_any (A : Option Addr) (c B : Nat) (l : List Int) (w : World) (hr : RdI w B A l) (hB : B ≤ w.heap.size) (hl : l.length ≤ 9223372036854775807) : Calls Tryd.prog 25 #[.slice A l.length c] w (RetB (ascB l) w) := by
  have HR := Lib.hid hr
  clear hr
  by_cases h0 : l.length < 1
  · have HN : Hid (ascB l = false) := Lib.hid (asc_f (fun h => by have := h.1; omega))
    have d1 : decide ((l.length : Int) < 1) = true := by simp; omega
    have d1' : decide (l.length < 1) = true := by simpa using h0
    go_enter Tryd.func25, Tryd.ntmps25
    go_wp2
    go_ret
    exact retB_of HN.out.symm (Below.refl _ _)
  · have d1 : decide ((l.length : Int) < 1) = false := by simp; omega
    have d1' : decide (l.length < 1) = false := by simpa using h0
    by_cases h1 : 4096 < l.length
    · have HN : Hid (ascB l = false) := Lib.hid (asc_f (fun h => by have := h.2.1; omega))
      have d2 : decide (4096 < (l.length : Int)) = true := by simp; omega
      have d2' : decide (4096 < l.length) = true := by simpa using h1
      go_enter Tryd.func25, Tryd.ntmps25
      go_wp2
      go_ret
      exact retB_of HN.out.symm (Below.refl _ _)
    · have d2 : decide (4096 < (l.length : Int)) = false := by simp; omega
      have d2' : decide (4096 < l.length) = false := by simpa using h1
      obtain ⟨b, off, rfl, hbb, hc⟩ := HR.out.all (by omega)
      have HC := Lib.hid hc
      clear hc
      go_enter Tryd.func25, Tryd.ntmps25
      go_wp2
      go_loopw [15, 3, 4] (fun i _ _ wr => ∃ k : Nat, k ≤ l.length ∧ i = .int .i64 k ∧ OkTo l k ∧ ∃ m, wr = w.drewN m) (fun i _ _ _ => l.length - (intOf i).toNat)
      case atStart => exact ⟨0, Nat.zero_le _, rfl, fun i hi => by omega, 0, rfl⟩
      case round =>
        obtain ⟨k, hk, rfl, hok, m, rfl⟩ := hrel
        have HOK := Lib.hid hok
        clear hok
        by_cases hlt : k < l.length
        · have e1 := HC.out k hlt
          have HBad : Hid (¬ okE l k → ascB l = false) := Lib.hid (bad_at hlt)
          have HNx : Hid (okE l k → OkTo l (k + 1)) := Lib.hid (okTo_next HOK.out)
          have HKO : Hid (okE l k ↔ (1 ≤ at1 l k ∧ at1 l k ≤ 2147483647 ∧ (0 < k → at1 l (k - 1) < at1 l k))) := Lib.hid Iff.rfl
          rcases bool_cases (at1 l k < 1) with t1 | t1
          · have HN : Hid (ascB l = false) := Lib.hid (HBad.out (fun h => by have := (HKO.out.1 h).1; simp at t1; omega))
            go_wp2
            go_ret
            exact retB_of HN.out.symm (by first | exact below_drewN (Below.refl _ _) _ | exact below_drewN (below_drewN (Below.refl _ _) _) _)
          · rcases bool_cases (2147483647 < at1 l k) with t2 | t2
            · have HN : Hid (ascB l = false) := Lib.hid (HBad.out (fun h => by have := (HKO.out.1 h).2.1; simp at t2; omega))
              go_wp2
              go_ret
              exact retB_of HN.out.symm (by first | exact below_drewN (Below.refl _ _) _ | exact below_drewN (below_drewN (Below.refl _ _) _) _)
            · by_cases hk0 : 0 < k
              · obtain ⟨j, rfl⟩ : ∃ j, k = j + 1 := ⟨k - 1, by omega⟩
                have e0 := HC.out j (by omega)
                have hw := IntWalk.i64_in (j : Int) (by omega)
                have hjl : j < l.length := by omega
                rcases bool_cases (at1 l (j + 1) ≤ at1 l j) with t3 | t3
                · have HN : Hid (ascB l = false) := Lib.hid (HBad.out (fun h => by have := (HKO.out.1 h).2.2 (by omega); simp at t3 this; omega))
                  clear hw
                  go_wp2
                  go_ret
                  exact retB_of HN.out.symm (by first | exact below_drewN (Below.refl _ _) _ | exact below_drewN (below_drewN (Below.refl _ _) _) _)
                · have HN : Hid (OkTo l (j + 1 + 1)) := Lib.hid (HNx.out (HKO.out.2 ⟨by simp at t1; omega, by simp at t2; omega, fun _ => by simp at t3 ⊢; omega⟩))
                  clear hw
                  go_wp2
                  go_roundw
                  case rel => exact ⟨j + 1 + 1, by omega, by go_num, HN.out, _, rfl⟩
                  case measure => simp [intOf]; omega
              · have hd : decide ((0 : Int) < (k : Int)) = false := by simp; omega
                have hd' : decide (0 < k) = false := by simp; omega
                have HN : Hid (OkTo l (k + 1)) := Lib.hid (HNx.out (HKO.out.2 ⟨by simp at t1; omega, by simp at t2; omega, fun h => by omega⟩))
                go_wp2
                go_roundw
                case rel => exact ⟨k + 1, by omega, by go_num, HN.out, _, rfl⟩
                case measure => simp [intOf]; omega
        · have HN : Hid (ascB l = true) := Lib.hid (asc_t ⟨by omega, by omega, fun i hi => HOK.out i (by omega)⟩)
          go_wp2
          go_ret
          exact retB_of HN.out.symm (by first | exact below_drewN (Below.refl _ _) _ | exact below_drewN (below_drewN (Below.refl _ _) _) _)
set_option maxHeartbeats 1600000 in
theorem employees_any (A : Option Addr) (c B : Nat) (l : List Int) (w : World) (hr : RdI w B A l) (hB : B ≤ w.heap.size) (hl : l.length ≤ 9223372036854775807) : Calls Tryd.prog 33 #[.slice A l.length c] w (RetB (ascB l) w) := by
  have HR := Lib.hid hr
  clear hr
  by_cases h0 : l.length < 1
  · have HN : Hid (ascB l = false) := Lib.hid (asc_f (fun h => by have := h.1; omega))
    have d1 : ((l.length : Int) == 0) = true := by simp only [beq_iff_eq]; omega
    have d1' : (l.length == 0) = true := by simp only [beq_iff_eq]; omega
    go_enter Tryd.func33, Tryd.ntmps33
    go_wp2
    go_ret
    exact retB_of HN.out.symm (Below.refl _ _)
  · have d1 : ((l.length : Int) == 0) = false := by simp only [beq_eq_false_iff_ne, ne_eq]; omega
    have d1' : (l.length == 0) = false := by simp only [beq_eq_false_iff_ne, ne_eq]; omega
    by_cases h1 : 4096 < l.length
    · have HN : Hid (ascB l = false) := Lib.hid (asc_f (fun h => by have := h.2.1; omega))
      have d2 : decide (4096 < (l.length : Int)) = true := by simp; omega
      have d2' : decide (4096 < l.length) = true := by simpa using h1
      go_enter Tryd.func33, Tryd.ntmps33
      go_wp2
      go_ret
      exact retB_of HN.out.symm (Below.refl _ _)
    · have d2 : decide (4096 < (l.length : Int)) = false := by simp; omega
      have d2' : decide (4096 < l.length) = false := by simpa using h1
      obtain ⟨b, off, rfl, hbb, hc⟩ := HR.out.all (by omega)
      have HC := Lib.hid hc
      clear hc
      go_enter Tryd.func33, Tryd.ntmps33
      go_wp2
      go_loopw [3] (fun i  wr => ∃ k : Nat, k ≤ l.length ∧ i = .int .i64 k ∧ OkTo l k ∧ ∃ m, wr = w.drewN m) (fun i  _ => l.length - (intOf i).toNat)
      case atStart => exact ⟨0, Nat.zero_le _, rfl, fun i hi => by omega, 0, rfl⟩
      case round =>
        obtain ⟨k, hk, rfl, hok, m, rfl⟩ := hrel
        have HOK := Lib.hid hok
        clear hok
        by_cases hlt : k < l.length
        · have e1 := HC.out k hlt
          have HBad : Hid (¬ okE l k → ascB l = false) := Lib.hid (bad_at hlt)
          have HNx : Hid (okE l k → OkTo l (k + 1)) := Lib.hid (okTo_next HOK.out)
          have HKO : Hid (okE l k ↔ (1 ≤ at1 l k ∧ at1 l k ≤ 2147483647 ∧ (0 < k → at1 l (k - 1) < at1 l k))) := Lib.hid Iff.rfl
          rcases bool_cases (at1 l k < 1) with t1 | t1
          · have HN : Hid (ascB l = false) := Lib.hid (HBad.out (fun h => by have := (HKO.out.1 h).1; simp at t1; omega))
            go_wp2
            go_quiet (fail)
            go_wp2
            go_ret
            exact retB_of HN.out.symm (by first | exact below_drewN (Below.refl _ _) _ | exact below_drewN (below_drewN (Below.refl _ _) _) _)
          · rcases bool_cases (2147483647 < at1 l k) with t2 | t2
            · have HN : Hid (ascB l = false) := Lib.hid (HBad.out (fun h => by have := (HKO.out.1 h).2.1; simp at t2; omega))
              go_wp2
              go_quiet (fail)
              go_wp2
              go_ret
              exact retB_of HN.out.symm (by first | exact below_drewN (Below.refl _ _) _ | exact below_drewN (below_drewN (Below.refl _ _) _) _)
            · by_cases hk0 : 0 < k
              · obtain ⟨j, rfl⟩ : ∃ j, k = j + 1 := ⟨k - 1, by omega⟩
                have e0 := HC.out j (by omega)
                have hw := IntWalk.i64_in (j : Int) (by omega)
                have hjl : j < l.length := by omega
                rcases bool_cases (at1 l (j + 1) ≤ at1 l j) with t3 | t3
                · have HN : Hid (ascB l = false) := Lib.hid (HBad.out (fun h => by have := (HKO.out.1 h).2.2 (by omega); simp at t3 this; omega))
                  go_wp2
                  go_quiet (fail)
                  clear hw
                  go_wp2
                  go_ret
                  exact retB_of HN.out.symm (by first | exact below_drewN (Below.refl _ _) _ | exact below_drewN (below_drewN (Below.refl _ _) _) _)
                · have HN : Hid (OkTo l (j + 1 + 1)) := Lib.hid (HNx.out (HKO.out.2 ⟨by simp at t1; omega, by simp at t2; omega, fun _ => by simp at t3 ⊢; omega⟩))
                  go_wp2
                  go_quiet (fail)
                  clear hw
                  go_wp2
                  go_roundw
                  case rel => exact ⟨j + 1 + 1, by omega, by go_num, HN.out, _, rfl⟩
                  case measure => simp [intOf]; omega
              · have hd : decide ((0 : Int) < (k : Int)) = false := by simp; omega
                have hd' : decide (0 < k) = false := by simp; omega
                have HN : Hid (OkTo l (k + 1)) := Lib.hid (HNx.out (HKO.out.2 ⟨by simp at t1; omega, by simp at t2; omega, fun h => by omega⟩))
                go_wp2
                go_quiet (fail)
                go_wp2
                go_roundw
                case rel => exact ⟨k + 1, by omega, by go_num, HN.out, _, rfl⟩
                case measure => simp [intOf]; omega
        · have HN : Hid (ascB l = true) := Lib.hid (asc_t ⟨by omega, by omega, fun i hi => HOK.out i (by omega)⟩)
          go_wp2
          go_ret
          exact retB_of HN.out.symm (by first | exact below_drewN (Below.refl _ _) _ | exact below_drewN (below_drewN (Below.refl _ _) _) _)

/-- the clone of a slice of numbers lies in memory of its own -/
def ClonePost (l : List Int) (w : World) (e : Ending) (w' : World) : Prop := ∃ A c, e = .returned (.slice A l.length c) ∧ Below w.heap.size w w' ∧ RdI w' w'.heap.size A l ∧ ∀ b off, A = some ⟨b, off, none⟩ → w.heap.size ≤ b
theorem infoI : (Tryd.prog.info? 3).map (fun i => (i.zero, i.size, i.bytes)) = some (some (.int .i64 0), 1, 8) := by kernel_rfl
theorem src_rdI {w : World} {B : Nat} {A : Option Addr} {l : List Int} (h : RdI w B A l) : Src w 1 A l.length (l.map (Value.int .i64)) :=
  src_rd _ (by simp) (fun i j hi hj => by
    have hj0 : j = 0 := by omega
    subst hj0
    simp [at1, hi]) h
set_option maxHeartbeats 800000 in
theorem clone_any (A : Option Addr) (c : Nat) (l : List Int) (w : World) (hr : RdI w w.heap.size A l) (hl : l.length ≤ 100000) :
    Calls Tryd.prog 27 #[.slice A l.length c] w (ClonePost l w) := by
  obtain ⟨i0, hi, hz0, hz1, hz2⟩ := info_parts infoI
  have HR := Lib.hid hr
  clear hr
  have hnil := fun (w : World) (a : Option Addr) (n c n' c' : Nat) => Lib.run_eql_slice_nil (P := Tryd.prog) w 23 3 a n c n' c' Tryd.underlying23
  cases A with
  | none =>
    have hn : l.length = 0 := by
      by_cases h : 0 < l.length
      · obtain ⟨b, off, e, _⟩ := HR.out h
        cases e
      · omega
    obtain rfl : l = [] := List.eq_nil_of_length_eq_zero hn
    clear hn hl
    simp only [List.length_nil]
    go_enter Tryd.func27, Tryd.ntmps27
    go_wp2
    go_ret
    exact ⟨none, 0, rfl, Below.refl _ _, Rd.none_, fun b off e => by cases e⟩
  | some ad =>
    go_enter Tryd.func27, Tryd.ntmps27
    go_wp2_with (at_builtin; go_must (refine wpList_append_src _ rfl _ _ 23 rfl w.heap.size 3 i0 _ 1 8 Tryd.underlying23 hi hz0 hz1 hz2 rfl (by decide) (some ⟨w.heap.size, 0, none⟩) 0 0 [] rfl ?o1 (some ad) l.length c (l.map (Value.int .i64)) rfl ?o2 ?o3 ?o4 ?o5 ?o6 ?_))
    case o1 => simpa using World.ownsRow_lit (base := w.heap.size) (e := 3) (size := 1) w #[] 0 (Nat.le_refl _) (by simp [maxLen]) rfl
    case o2 => exact src_rdI (HR.out.below ((Below.refl _ _).alloc (Nat.le_refl _) _))
    case o3 => exact ints_one l
    case o4 => unfold maxLen; omega
    case o5 => omega
    case o6 => simp
    intro A2 c2 w2 hown hb hcl
    have HO := Lib.hid (own_rdI (l := l) (by simpa using hown))
    have HF : Hid (∀ b off, A2 = some ⟨b, off, none⟩ → w.heap.size ≤ b) := Lib.hid (by rintro b off rfl; exact (World.ownsRow.lt hown b rfl).1)
    have HB := Lib.hid (((Below.refl w.heap.size w).alloc (Nat.le_refl _) _).trans hb)
    clear hown hb hcl
    go_wp2
    go_ret
    exact ⟨A2, c2, rfl, HB.out, HO.out, HF.out⟩

def DeckBool (g : Nat) (N : Int) (w : World) (e : Ending) (w' : World) : Prop := ∃ b : Bool, e = .returned (.bool b) ∧ Only g w w' ∧ Deck w' g N
set_option maxHeartbeats 400000 in
theorem left_any (g : Nat) (N : Int) (w : World) (hD : Deck w g N) (hN : N ≤ 1000000) : Calls Tryd.prog 28 #[.pointer (some ⟨g, 0, none⟩)] w (DeckBool g N w) := by
  have HD := Lib.hid hD
  obtain ⟨A, c, l, k, hb, hr, hl, hk⟩ := hD
  have hc0 : w.cell? ⟨g, 0, none⟩ = some (.slice A l.length c) := hb.cell 0
  have hc1 : w.cell? ⟨g, 1, none⟩ = some (.int .i64 (k : Int)) := hb.cell 1
  clear hb hr
  go_enter Tryd.func28, Tryd.ntmps28
  go_wp2
  go_quiet (fail)
  go_wp2
  go_ret
  exact ⟨_, rfl, (Only.refl g w).drewN _, HD.out.drewN _⟩
end Go.Proofs.YtolkdidcmingkaaDoor
