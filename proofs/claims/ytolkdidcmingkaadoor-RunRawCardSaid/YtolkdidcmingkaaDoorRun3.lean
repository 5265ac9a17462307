/-
  Chapter 40: control totals compared; contracts of may, formed, form.
-/
import Derived.Test.YtolkdidcmingkaaDoorRun2
namespace Go.Proofs.YtolkdidcmingkaaDoor
open Go.RowKit
set_option linter.unusedVariables false
set_option linter.unusedSimpArgs false

def eqC (a b : T3) : Bool := (a.1 == b.1) && ((a.2.1 == b.2.1) && (a.2.2 == b.2.2))
theorem eqC_iff (a b : T3) : eqC a b = true ↔ a = b := by
  obtain ⟨a0, a1, a2⟩ := a
  obtain ⟨b0, b1, b2⟩ := b
  simp [eqC]
theorem run_eqC (a0 a1 a2 b0 b1 b2 : Int) (w : World) : (Op.equalIn 10000 25 (.agg #[.int .i64 a0, .int .i64 a1, .int .i64 a2]) (.agg #[.int .i64 b0, .int .i64 b1, .int .i64 b2])).run Tryd.prog w = .ok (eqC (a0, a1, a2) (b0, b1, b2)) w := by
  rw [run_equalIn_struct w 9999 25 _ _ (by kernel_rfl) (by kernel_rfl)]
  unfold Program.fieldsOf
  rw [Tryd.underlying25]
  cases h0 : (a0 == b0) <;> cases h1 : (a1 == b1) <;> cases h2 : (a2 == b2) <;> simp [Op.eqFields, go_sem, Tryd.underlying3, h0, h1, h2, eqC]
end Go.Proofs.YtolkdidcmingkaaDoor
