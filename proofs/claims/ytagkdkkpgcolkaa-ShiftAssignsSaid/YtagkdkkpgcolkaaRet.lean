/-
  Words for endings: what a call returns where nothing that was there has turned. No program in sight; no conditions.
-/
import Derived.Test.YtagkdkkpgcolkaaKit
namespace Go.Proofs.Ytagkdkkpgcolkaa
open Go.RowKit
def RetB (b : Bool) (w : World) (e : Ending) (w' : World) : Prop := e = .returned (.bool b) ∧ Below w.heap.size w w'
def RetI (v : Int) (w : World) (e : Ending) (w' : World) : Prop := e = .returned (.int .i64 v) ∧ Below w.heap.size w w'
def RetII (u v : Int) (w : World) (e : Ending) (w' : World) : Prop := e = .returned (.tuple #[.int .i64 u, .int .i64 v]) ∧ Below w.heap.size w w'
theorem retII_of {u v u' v' : Int} {w w' : World} (hu : u = u') (hv : v = v') (hb : Below w.heap.size w w') : RetII u' v' w (.returned (.tuple #[.int .i64 u, .int .i64 v])) w' := by
  subst hu hv; exact ⟨rfl, hb⟩
theorem bool_cases (p : Prop) [Decidable p] : decide p = true ∨ decide p = false := by cases h : decide p <;> simp
def RetB0 (b : Bool) (w : World) (e : Ending) (w' : World) : Prop := e = .returned (.bool b) ∧ w = w'
theorem retB0_of {b b' : Bool} {w : World} (h : b = b') : RetB0 b' w (.returned (.bool b)) w := by subst h; exact ⟨rfl, rfl⟩
end Go.Proofs.Ytagkdkkpgcolkaa
