/-
  Chapter 10: the map of places: which duty has a key. No walk; the memory is that of the given program.
-/
import Derived.Test.YtagkdkkpgcolkaaDu2
import Derived.Maps.OwnSet
import Derived.Maps.Own
import Derived.Maps.Views
import Derived.Maps.Keyed
import Derived.DeepKeys4
namespace Go.Proofs.Ytagkdkkpgcolkaa
open Go.RowKit
open Go.Maps (Keyed IsMap Tidy)
set_option linter.unusedVariables false
set_option linter.unusedSimpArgs false
def struct2 (P : Program) (k : TypeId) : Option (List Field) := match P.underlying k with
  | some (.struct fs) => some fs.toList
  | _ => none
theorem struct2_of {P : Program} {k : TypeId} {a b : Field} (h : struct2 P k = some [a, b]) : P.underlying k = some (.struct #[a, b]) := by
  unfold struct2 at h
  split at h
  · rename_i fs h1
    injection h with h
    rw [h1]
    cases fs
    simp at h
    subst h
    rfl
  · cases h
theorem key_gen {P : Program} {k : TypeId} {f0 f1 : Field} (hu : P.underlying k = some (.struct #[f0, f1])) (hk : P.keyType k = true) (hc : P.cellsOf k = 2) (hz : 0 < P.types.size) (u0 : P.underlying f0.type = some (.int .i64)) (u1 : P.underlying f1.type = some (.int .i64)) (o0 : f0.offset = 0) (o1 : f1.offset = 1) (c0 : P.cellsOf f0.type = 1) (c1 : P.cellsOf f1.type = 1)
    (n0 : (f0.name != "_") = true) (n1 : (f1.name != "_") = true) {s y : Int} (hs : (Lit.int .i64 s).wf = true) (hy : (Lit.int .i64 y).wf = true) : (keyOf P k (.agg #[.int .i64 s, .int .i64 y])).isSome = true := by
  obtain ⟨n, hn⟩ : ∃ n, P.types.size = n + 1 := ⟨P.types.size - 1, by omega⟩
  unfold keyOf
  rw [hu]
  have hform : (Value.agg #[.int .i64 s, .int .i64 y]).formed P k = true := by simp [Value.formed, hu, hc]
  have hcells : (Value.agg #[.int .i64 s, .int .i64 y]).cells.toList = [.int .i64 s, .int .i64 y] := rfl
  simp only [hk, hform, Bool.and_self, if_true, hcells, hn]
  simp [Program.keyLits, hu, hc, u0, u1, o0, o1, c0, c1, n0, n1, hs, hy]
theorem s78 : (struct2 Try.prog 78).map (fun p => p.map (fun f => (f.type, f.offset, f.name != "_"))) = some [(3, 0, true), (3, 1, true)] := by kernel_rfl
theorem key_some (s y : Int) (hs : (Lit.int .i64 s).wf = true) (hy : (Lit.int .i64 y).wf = true) : (keyOf Try.prog 78 (.agg #[.int .i64 s, .int .i64 y])).isSome = true := by
  have h := s78
  cases h2 : struct2 Try.prog 78 with
  | none => rw [h2] at h; cases h
  | some p =>
    rw [h2] at h
    match p, h with
    | [f0, f1], h =>
    simp only [Option.map_some, Option.some.injEq, List.map_cons, List.map_nil, List.cons.injEq, Prod.mk.injEq, and_true] at h
    obtain ⟨⟨t0, o0, n0⟩, t1, o1, n1⟩ := h
    exact key_gen (struct2_of h2) (by kernel_rfl) (by kernel_rfl) (of_decide_eq_true (by kernel_rfl)) (by rw [t0]; kernel_rfl) (by rw [t1]; kernel_rfl) o0 o1 (by rw [t0]; kernel_rfl) (by rw [t1]; kernel_rfl) n0 n1 hs hy
/-- the key as a literal -/
noncomputable def kL (s y : Int) : Lit := (keyOf Try.prog 78 (.agg #[.int .i64 s, .int .i64 y])).getD .nil
theorem kL_ok {s y : Int} (hs : (Lit.int .i64 s).wf = true) (hy : (Lit.int .i64 y).wf = true) : keyOf Try.prog 78 (.agg #[.int .i64 s, .int .i64 y]) = some (kL s y) := by
  have h := key_some s y hs hy
  unfold kL
  cases h2 : keyOf Try.prog 78 (.agg #[.int .i64 s, .int .i64 y]) with
  | none => rw [h2] at h; cases h
  | some x => rfl
theorem und75 : Try.prog.underlying 75 = some (.map 78 3) := by kernel_rfl
theorem laid_out : laidOutB Try.prog = true := by kernel_rfl
theorem wide78 : (match Try.prog.underlying 78 with | some (.array _ _) | some (.struct _) => true | _ => false) = true := by kernel_rfl
theorem row78 : (78 : TypeId) < Try.prog.types.size := of_decide_eq_true (by kernel_rfl)
theorem keyed78 : Keyed Try.prog 78 := Keyed.of_law (deep_law_laid laid_out (m := 2) (by omega) row78 (by kernel_rfl) wide78)
end Go.Proofs.Ytagkdkkpgcolkaa
