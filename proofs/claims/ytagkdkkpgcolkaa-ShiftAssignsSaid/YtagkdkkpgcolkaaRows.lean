/-
  No cell of these rows narrows 'for every input' (looked for: loops, veiled, ifaces, maps, wideKeys, modest, calm, conditions, laid).
  DERIVED. THE GIVEN ROWS OF THIS SEAT. 5 by the template 'for every input the law returns true; each argument reads behind the call as it read before'; 0 by the template 'total and deterministic' (their statements: YtagkdkkpgcolkaaTotals.lean).
  GIVEN WITH THE SEED: the statements are not yours to turn. If you find one false, say at which input.
  Laid BY PROGRAM, IN A SANDBOX (cutbox-rows.mjs): the forced cells as the released guide's own fill.sh prints them over the translation 653fc0c4743b0847… (all of the seat's roots in one cut). By AI agents, Wed Nov 11 2026. No macro, syntax, notation, axiom, sorry.
-/
import Derived.Test.YtagkdkkpgcolkaaChecked
import GoSem.Claim
import GoSem.ClaimJoined
import GoSem.ClaimMapViews
import Derived.JoinedTies
import Derived.KernelRfl
namespace Go.Proofs.Ytagkdkkpgcolkaa
/- THE CELL 'sum', in the pinned program and in every row, IS THE sha256 OF THE DUMP (.gsa) THAT YtagkdkkpgcolkaaProg.lean LOADS. Nothing in Lean hashes anything: it is a label: what it is worth is what the hold of that sum in a sandbox is worth. -/
noncomputable def Try.pinned : Pinned := { name := "ytagkdkkpgcolkaa", sum := "653fc0c4743b084758fabd431c0fd7cef6f6524d20cb745fc00cf33a87449e28", checked := Try.checked }
namespace Rows
def none {H : Type} : Left H := { results := [], args := [] }

/-- 'payrolllaw10.ShiftPlans': WHATEVER THE INPUT: true; the input reads as it did. -/
def shiftPlansSpec : ChangeSpec := { name := "shiftPlans", fn := fun _ => fun
  | [d1, d2, d3, d4] => { results := [.lit (.bool true)], args := [d1, d2, d3, d4] }
  | _ => none }
def shiftPlansRow : OpenClaim := { program := "ytagkdkkpgcolkaa", sum := "653fc0c4743b084758fabd431c0fd7cef6f6524d20cb745fc00cf33a87449e28", func := "payroll/payrolllaw10.ShiftPlans", spec := "shiftPlans", plainKeys := false, apart := false }
def ShiftPlansSaid : Prop := shiftPlansRow.holds Try.pinned (OpenSpec.ofChange shiftPlansSpec)

/-- ITS FALSE NEIGHBOUR: 'it returns false'. Refute it at one input. -/
def shiftPlansWrong : ChangeSpec := { name := "shiftPlans", fn := fun _ => fun
  | [d1, d2, d3, d4] => { results := [.lit (.bool false)], args := [d1, d2, d3, d4] }
  | _ => none }
def ShiftPlansWrongFalsely : Prop := shiftPlansRow.holds Try.pinned (OpenSpec.ofChange shiftPlansWrong)

/-- 'payrolllaw10.ShiftAssigns': WHATEVER THE INPUT: true; the input reads as it did. -/
def shiftAssignsSpec : ChangeSpec := { name := "shiftAssigns", fn := fun _ => fun
  | [d1, d2, d3] => { results := [.lit (.bool true)], args := [d1, d2, d3] }
  | _ => none }
def shiftAssignsRow : OpenClaim := { program := "ytagkdkkpgcolkaa", sum := "653fc0c4743b084758fabd431c0fd7cef6f6524d20cb745fc00cf33a87449e28", func := "payroll/payrolllaw10.ShiftAssigns", spec := "shiftAssigns", plainKeys := false, apart := false }
def ShiftAssignsSaid : Prop := shiftAssignsRow.holds Try.pinned (OpenSpec.ofChange shiftAssignsSpec)

/-- ITS FALSE NEIGHBOUR: 'it returns false'. Refute it at one input. -/
def shiftAssignsWrong : ChangeSpec := { name := "shiftAssigns", fn := fun _ => fun
  | [d1, d2, d3] => { results := [.lit (.bool false)], args := [d1, d2, d3] }
  | _ => none }
def ShiftAssignsWrongFalsely : Prop := shiftAssignsRow.holds Try.pinned (OpenSpec.ofChange shiftAssignsWrong)

/-- 'payrolllaw10.ShiftDivides': WHATEVER THE INPUT: true; the input reads as it did. -/
def shiftDividesSpec : ChangeSpec := { name := "shiftDivides", fn := fun _ => fun
  | [d] => { results := [.lit (.bool true)], args := [d] }
  | _ => none }
def shiftDividesRow : OpenClaim := { program := "ytagkdkkpgcolkaa", sum := "653fc0c4743b084758fabd431c0fd7cef6f6524d20cb745fc00cf33a87449e28", func := "payroll/payrolllaw10.ShiftDivides", spec := "shiftDivides", plainKeys := false, apart := false }
def ShiftDividesSaid : Prop := shiftDividesRow.holds Try.pinned (OpenSpec.ofChange shiftDividesSpec)

/-- ITS FALSE NEIGHBOUR: 'it returns false'. Refute it at one input. -/
def shiftDividesWrong : ChangeSpec := { name := "shiftDivides", fn := fun _ => fun
  | [d] => { results := [.lit (.bool false)], args := [d] }
  | _ => none }
def ShiftDividesWrongFalsely : Prop := shiftDividesRow.holds Try.pinned (OpenSpec.ofChange shiftDividesWrong)

/-- 'payrolllaw10.ShiftNearest': WHATEVER THE INPUT: true; the input reads as it did. -/
def shiftNearestSpec : ChangeSpec := { name := "shiftNearest", fn := fun _ => fun
  | [d] => { results := [.lit (.bool true)], args := [d] }
  | _ => none }
def shiftNearestRow : OpenClaim := { program := "ytagkdkkpgcolkaa", sum := "653fc0c4743b084758fabd431c0fd7cef6f6524d20cb745fc00cf33a87449e28", func := "payroll/payrolllaw10.ShiftNearest", spec := "shiftNearest", plainKeys := false, apart := false }
def ShiftNearestSaid : Prop := shiftNearestRow.holds Try.pinned (OpenSpec.ofChange shiftNearestSpec)

/-- ITS FALSE NEIGHBOUR: 'it returns false'. Refute it at one input. -/
def shiftNearestWrong : ChangeSpec := { name := "shiftNearest", fn := fun _ => fun
  | [d] => { results := [.lit (.bool false)], args := [d] }
  | _ => none }
def ShiftNearestWrongFalsely : Prop := shiftNearestRow.holds Try.pinned (OpenSpec.ofChange shiftNearestWrong)

/-- 'payrolllaw10.ShiftUnplanned': WHATEVER THE INPUT: true; the input reads as it did. -/
def shiftUnplannedSpec : ChangeSpec := { name := "shiftUnplanned", fn := fun _ => fun
  | [d1, d2] => { results := [.lit (.bool true)], args := [d1, d2] }
  | _ => none }
def shiftUnplannedRow : OpenClaim := { program := "ytagkdkkpgcolkaa", sum := "653fc0c4743b084758fabd431c0fd7cef6f6524d20cb745fc00cf33a87449e28", func := "payroll/payrolllaw10.ShiftUnplanned", spec := "shiftUnplanned", plainKeys := false, apart := false }
def ShiftUnplannedSaid : Prop := shiftUnplannedRow.holds Try.pinned (OpenSpec.ofChange shiftUnplannedSpec)

/-- ITS FALSE NEIGHBOUR: 'it returns false'. Refute it at one input. -/
def shiftUnplannedWrong : ChangeSpec := { name := "shiftUnplanned", fn := fun _ => fun
  | [d1, d2] => { results := [.lit (.bool false)], args := [d1, d2] }
  | _ => none }
def ShiftUnplannedWrongFalsely : Prop := shiftUnplannedRow.holds Try.pinned (OpenSpec.ofChange shiftUnplannedWrong)

/- THE SECOND FORM. 'bulk': how many values and letters a reading holds, each counted each time it is reached (what is shared counts as often as it is met; a slice's spare places count too). A statement '..UptoSaid' is the law's where the arguments, and the package variables that the reading takes, are together of bulk at most 1048576: NARROWER than '..Said'. Prove '..Said' where nothing that the law and all that it calls make is longer than what came in: it says more and counts as full. Else prove '..UptoSaid'. A law counts once. -/
mutual
def uptoBulk {H : Type} : DataW H → Nat
  | .lit (.string bytes) => bytes.length + 1
  | .lit _ => 1
  | .nil => 1
  | .ptr d => uptoBulk d + 1
  | .slice elems spare => uptoBulkAll elems + uptoBulkAll spare + 1
  | .agg parts => uptoBulkAll parts + 1
  | .iface _ d => uptoBulk d + 1
  | .map entries => uptoBulkEntries entries + 1
  | .held _ => 1
def uptoBulkAll {H : Type} : List (DataW H) → Nat
  | [] => 0
  | d :: r => uptoBulk d + uptoBulkAll r
def uptoBulkEntries {H : Type} : List (Lit × DataW H) → Nat
  | [] => 0
  | x :: r => uptoBulkEntry x + uptoBulkEntries r
def uptoBulkEntry {H : Type} : Lit × DataW H → Nat
  | (.string bytes, d) => bytes.length + uptoBulk d + 1
  | (_, d) => uptoBulk d + 1
 end
def uptoSmall : (H : Type) → List (DataW H) → Bool := fun _ ds => decide (uptoBulkAll ds ≤ 1048576)
def OpenSpec.upto (s : _root_.Go.ChangeSpec) : _root_.Go.OpenSpec := { _root_.Go.OpenSpec.ofChange s with cond := some uptoSmall }

/-- 'payrolllaw10.ShiftPlans', WHERE WHAT IT READS IS OF BULK AT MOST 1048576: true; the input reads as it did. -/
def shiftPlansUptoRow : OpenClaim := { program := "ytagkdkkpgcolkaa", sum := "653fc0c4743b084758fabd431c0fd7cef6f6524d20cb745fc00cf33a87449e28", func := "payroll/payrolllaw10.ShiftPlans", spec := "shiftPlans", plainKeys := false, apart := false, narrowed := true }
def ShiftPlansUptoSaid : Prop := shiftPlansUptoRow.holds Try.pinned (OpenSpec.upto shiftPlansSpec)

/-- 'payrolllaw10.ShiftAssigns', WHERE WHAT IT READS IS OF BULK AT MOST 1048576: true; the input reads as it did. -/
def shiftAssignsUptoRow : OpenClaim := { program := "ytagkdkkpgcolkaa", sum := "653fc0c4743b084758fabd431c0fd7cef6f6524d20cb745fc00cf33a87449e28", func := "payroll/payrolllaw10.ShiftAssigns", spec := "shiftAssigns", plainKeys := false, apart := false, narrowed := true }
def ShiftAssignsUptoSaid : Prop := shiftAssignsUptoRow.holds Try.pinned (OpenSpec.upto shiftAssignsSpec)

/-- 'payrolllaw10.ShiftDivides', WHERE WHAT IT READS IS OF BULK AT MOST 1048576: true; the input reads as it did. -/
def shiftDividesUptoRow : OpenClaim := { program := "ytagkdkkpgcolkaa", sum := "653fc0c4743b084758fabd431c0fd7cef6f6524d20cb745fc00cf33a87449e28", func := "payroll/payrolllaw10.ShiftDivides", spec := "shiftDivides", plainKeys := false, apart := false, narrowed := true }
def ShiftDividesUptoSaid : Prop := shiftDividesUptoRow.holds Try.pinned (OpenSpec.upto shiftDividesSpec)

/-- 'payrolllaw10.ShiftNearest', WHERE WHAT IT READS IS OF BULK AT MOST 1048576: true; the input reads as it did. -/
def shiftNearestUptoRow : OpenClaim := { program := "ytagkdkkpgcolkaa", sum := "653fc0c4743b084758fabd431c0fd7cef6f6524d20cb745fc00cf33a87449e28", func := "payroll/payrolllaw10.ShiftNearest", spec := "shiftNearest", plainKeys := false, apart := false, narrowed := true }
def ShiftNearestUptoSaid : Prop := shiftNearestUptoRow.holds Try.pinned (OpenSpec.upto shiftNearestSpec)

/-- 'payrolllaw10.ShiftUnplanned', WHERE WHAT IT READS IS OF BULK AT MOST 1048576: true; the input reads as it did. -/
def shiftUnplannedUptoRow : OpenClaim := { program := "ytagkdkkpgcolkaa", sum := "653fc0c4743b084758fabd431c0fd7cef6f6524d20cb745fc00cf33a87449e28", func := "payroll/payrolllaw10.ShiftUnplanned", spec := "shiftUnplanned", plainKeys := false, apart := false, narrowed := true }
def ShiftUnplannedUptoSaid : Prop := shiftUnplannedUptoRow.holds Try.pinned (OpenSpec.upto shiftUnplannedSpec)

end Rows
end Go.Proofs.Ytagkdkkpgcolkaa
