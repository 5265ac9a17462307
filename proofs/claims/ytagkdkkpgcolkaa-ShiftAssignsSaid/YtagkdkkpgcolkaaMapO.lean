/-
  Chapter 10: the map of places and the duties. No walk; the memory is that of the given program.
-/
import Derived.Test.YtagkdkkpgcolkaaMapK
namespace Go.Proofs.Ytagkdkkpgcolkaa
open Go.RowKit
open Go.Maps (Keyed IsMap Tidy)
set_option linter.unusedVariables false
set_option linter.unusedSimpArgs false
theorem wf64 {a : Int} (h0 : -9223372036854775808 ≤ a) (h1 : a ≤ 9223372036854775807) : (Lit.int .i64 a).wf = true := by
  have e0 : IntKind.i64.min = -9223372036854775808 := by decide
  have e1 : IntKind.i64.max = 9223372036854775807 := by decide
  simp only [Lit.wf, e0, e1, Bool.and_eq_true, decide_eq_true_eq]
  exact ⟨h0, h1⟩
theorem dIx_app (ds : List Du) (s y s' y' : Int) (x : List Pr) : dIx (ds ++ [(s, y, x)]) s' y' = if dIx ds s' y' < ds.length then dIx ds s' y' else if s = s' ∧ y = y' then ds.length else ds.length + 1 := by
  induction ds with
  | nil => simp [dIx]
  | cons d t ih =>
    rw [List.cons_append, dIx, dIx, ih]
    by_cases hc : d.1 = s' ∧ d.2.1 = y'
    · rw [if_pos hc, if_pos hc, if_pos (by simp)]
    · rw [if_neg hc, if_neg hc]
      simp only [List.length_cons]
      by_cases h1 : dIx t s' y' < t.length
      · have h2 : dIx t s' y' + 1 < t.length + 1 := by omega
        simp only [if_pos h1, if_pos h2]
      · have h2 : ¬ dIx t s' y' + 1 < t.length + 1 := by omega
        simp only [if_neg h1, if_neg h2]
        split <;> rfl
theorem dIx_mod (ds : List Du) (p : Pr) (i : Nat) (s y : Int) : dIx (ds.modify i (dTo p)) s y = dIx ds s y := by
  induction ds generalizing i with
  | nil => cases i <;> rfl
  | cons d t ih =>
    cases i with
    | zero => simp [List.modify_zero_cons, dIx, dTo]
    | succ i => rw [List.modify_succ_cons, dIx, dIx, ih]
def KB (s y : Int) : Prop := (-9223372036854775808 ≤ s ∧ s ≤ 9223372036854775807) ∧ (-9223372036854775808 ≤ y ∧ y ≤ 9223372036854775807)
theorem kL_kb {s y : Int} (h : KB s y) : keyOf Try.prog 78 (.agg #[.int .i64 s, .int .i64 y]) = some (kL s y) := kL_ok (wf64 h.1.1 h.1.2) (wf64 h.2.1 h.2.2)
theorem kL_inj {s y s' y' : Int} (h : KB s y) (h' : KB s' y') (e : kL s y = kL s' y') : s = s' ∧ y = y' := by
  have h1 := kL_kb h
  rw [e] at h1
  have h2 := keyed78.inj h1 (kL_kb h')
  simp at h2
  exact h2
/-- the map in block b holds the place of each duty's key -/
def MapD (ds : List Du) (D : DataW Unit) : Prop := ∀ s y, KB s y → (dIx ds s y < ds.length → Maps.has D (kL s y) = true ∧ D.atKey (kL s y) (.lit (.int .i64 0)) = .lit (.int .i64 (dIx ds s y))) ∧ (¬ dIx ds s y < ds.length → Maps.has D (kL s y) = false)
def MapO (w : World) (b n : Nat) (ds : List Du) : Prop := ∃ D : DataW Unit, w.ownsMap Try.prog 78 (plainElem Try.prog 3) b n D ∧ MapD ds D
theorem MapO.made (w : World) : MapO (w.alloc (.map #[] 0)) w.heap.size 0 [] := ⟨_, World.ownsMap_made _ _ _ _, fun s y h => ⟨fun h => by simp at h, fun _ => rfl⟩⟩
theorem MapO.mod {w : World} {b n : Nat} {ds : List Du} (h : MapO w b n ds) (i : Nat) (p : Pr) : MapO w b n (ds.modify i (dTo p)) := by
  obtain ⟨D, h1, h2⟩ := h
  refine ⟨D, h1, fun s y hk => ?_⟩
  rw [dIx_mod, List.length_modify]
  exact h2 s y hk
theorem MapD.put {ds : List Du} {D : DataW Unit} (h : MapD ds D) (hD : IsMap D) {s y : Int} (hk : KB s y) (hnew : ¬ dIx ds s y < ds.length) : MapD (ds ++ [(s, y, [])]) (D.put (kL s y) (.lit (.int .i64 (ds.length : Nat)))) := by
  have hkey := keyed78.key (kL_kb hk)
  intro s' y' hk'
  rw [dIx_app, List.length_append]
  simp only [List.length_cons, List.length_nil]
  have h1 := h s' y' hk'
  by_cases he : s = s' ∧ y = y'
  · obtain ⟨rfl, rfl⟩ := he
    rw [if_neg hnew, if_pos ⟨rfl, rfl⟩]
    refine ⟨fun _ => ⟨Maps.has_put_same hD hkey _, Maps.atKey_put_same hD hkey _ _⟩, fun hc => absurd (by omega) hc⟩
  · have hne : kL s' y' ≠ kL s y := fun e => he (by
      have := kL_inj hk' hk e
      exact ⟨this.1.symm, this.2.symm⟩)
    rw [if_neg he]
    by_cases hlt : dIx ds s' y' < ds.length
    · rw [if_pos hlt]
      refine ⟨fun _ => ⟨?_, ?_⟩, fun hc => absurd (by omega) hc⟩
      · rw [Maps.has_put_other hne]; exact (h1.1 hlt).1
      · rw [Maps.atKey_put_other hne]; exact (h1.1 hlt).2
    · rw [if_neg hlt]
      refine ⟨fun hc => absurd hc (by omega), fun _ => ?_⟩
      rw [Maps.has_put_other hne]; exact h1.2 hlt
theorem MapO.lt {w : World} {b n : Nat} {ds : List Du} (h : MapO w b n ds) : b < w.heap.size ∧ ∀ t cs, ¬ Blk w b t cs := by
  obtain ⟨D, ⟨es, clock, hb, _⟩, _⟩ := h
  refine ⟨(Array.getElem?_eq_some_iff.1 hb).1, fun t cs hc => ?_⟩
  unfold Blk at hc
  rw [hb] at hc
  cases hc
theorem MapO.chg {S : Nat → Prop} {w w' : World} {b n : Nat} {ds : List Du} (h : MapO w b n ds) (k : Chg S w w') (hS : ¬ S b) : MapO w' b n ds := by
  have hlt := h.lt.1
  obtain ⟨D, ⟨es, clock, hb, F, hs, hD⟩, h2⟩ := h
  exact ⟨D, ⟨es, clock, (k.block b hlt hS).trans hb, F, hs, hD⟩, h2⟩
theorem zero3 (w : World) : (zeroValue 3).run Try.prog w = .ok (.int .i64 0) w := by kernel_rfl
end Go.Proofs.Ytagkdkkpgcolkaa
