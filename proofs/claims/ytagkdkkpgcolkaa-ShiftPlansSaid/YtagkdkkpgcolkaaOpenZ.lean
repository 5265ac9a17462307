/-
  An argument opened: a struct of a number and a slice of pairs of numbers, by value. No conditions.
-/
import Derived.Test.YtagkdkkpgcolkaaOpen
import Derived.Lib.SmallJoins
namespace Go.Proofs.Ytagkdkkpgcolkaa
open Go.ChangeShapes Go.WideShapes Go.ChangeAt Go.RowKit Go.Deep Go.Joins
set_option linter.unusedVariables false
set_option linter.unusedSimpArgs false
section
variable {H : Type} {enc : TypeId × Value → H} {P : Program} {W : World}
theorem open_zone {r : Reach} {b0 : Nat} {t te : TypeId} {f0 f1 e0 e1 : Field} {v : Value} {d : DataW H} {p : List MemPlace} (hs : P.underlying t = some (.struct #[f0, f1])) (hone : oneCellFields P #[f0, f1] = true) (hC : P.cellsOf t = 2)
    (u0 : P.underlying f0.type = some (.int .i64)) (us : P.underlying f1.type = some (.slice te)) (he : P.underlying te = some (.struct #[e0, e1]))
    (ce : P.cellsOf te = 2) (o0 : e0.offset = 0) (o1 : e1.offset = 1) (c0 : P.cellsOf e0.type = 1) (c1 : P.cellsOf e1.type = 1) (v0 : P.underlying e0.type = some (.int .i64)) (v1 : P.underlying e1.type = some (.int .i64))
    (hv : Value.okWide P W r b0 t v) (h : DataW.Trod enc P W 0 (fun _ => true) true t v d p) :
    ∃ (o : Int) (a : Option Addr) (cap : Nat) (l : List (Int × Int)), v = .agg #[.int .i64 o, .slice a l.length cap] ∧ l.length ≤ 9223372036854775807 ∧ RdP W W.heap.size a l := by
  obtain ⟨w0, w1, y0, y1, n, rfl, _, _, h0, h1⟩ := open_agg2 hs hone hC hv h
  obtain ⟨o, ho, _, _⟩ := DataW.trod_int u0 h0
  simp at ho
  subst ho
  have hsl : ∃ a len cap, w1 = .slice a len cap := by
    rcases open_slice_pairs us he ce o0 o1 c0 c1 h1 with ⟨hcs, _⟩ | ⟨x, len', cap', m, n, V0, V1, D0, D1, P0, P1, hcs, _⟩
    · simp at hcs; exact ⟨_, _, _, hcs⟩
    · simp at hcs; exact ⟨_, _, _, hcs⟩
  obtain ⟨a, len, cap, rfl⟩ := hsl
  obtain ⟨l, rfl, hl, hr, _⟩ := open_rdP (d := y1.1) (p := y1.2) us he ce o0 o1 c0 c1 v0 v1 ⟨n, by simpa [Value.cells] using h1⟩
  exact ⟨o, a, cap, l, rfl, hl, hr⟩
end
end Go.Proofs.Ytagkdkkpgcolkaa
