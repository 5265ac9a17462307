/-
  NARROWER THAN 'FOR EVERY INPUT', by the rows' own cells (each row's printed sentence says how): RunLimits: laid · RunReplays: laid · RunPaid: laid · RunSteps: laid · RunRaw: laid · RunPermits: laid.
  DERIVED. THE GIVEN ROWS OF THIS SEAT. 6 by the template 'for every input the law returns true; each argument reads behind the call as it read before'; 0 by the template 'total and deterministic' (their statements: YtolkdidcmingkaaDoorTotals.lean).
  GIVEN WITH THE SEED: the statements are not yours to turn. If you find one false, say at which input.
  Laid BY PROGRAM, IN A SANDBOX (cutbox-rows.mjs): the forced cells as the released guide's own fill.sh prints them over the translation 04c0f9755e18c7bb… (all of the seat's roots in one cut). By AI agents, Wed Nov 11 2026. No macro, syntax, notation, axiom, sorry.
-/
import Derived.Test.YtolkdidcmingkaaDoorChecked
import GoSem.Claim
import GoSem.ClaimJoined
import GoSem.ClaimMapViews
import Derived.JoinedTies
import Derived.KernelRfl
namespace Go.Proofs.YtolkdidcmingkaaDoor
/- THE CELL 'sum', in the pinned program and in every row, IS THE sha256 OF THE DUMP (.gsa) THAT YtolkdidcmingkaaDoorProg.lean LOADS. Nothing in Lean hashes anything: it is a label: what it is worth is what the hold of that sum in a sandbox is worth. -/
noncomputable def Tryd.pinned : Pinned := { name := "ytolkdidcmingkaadoor", sum := "04c0f9755e18c7bb523b54e05c5a54b329d62d99d94b9d2cc8a802de9470c90a", checked := Tryd.checked }
namespace Rows
def none {H : Type} : Left H := { results := [], args := [] }

/- WHAT THE LISTED PACKAGE-LEVEL VARIABLES READ AS WHEN THE CALL BEGINS. Each datum BY PROGRAM (the guide's laid-datum.mjs) off the statement by which the dump's own 'gosem.cut.vars' lays the variable. In a bare row this is a premise. The card (YtolkdidcmingkaaDoorCards.lean) ties it to the program's text. -/
def laid_payroll_run_transitions {H : Type} : DataW H := .agg [.agg [.lit (.int .i64 1), .lit (.int .i64 1), .lit (.int .i64 2)], .agg [.lit (.int .i64 1), .lit (.int .i64 2), .lit (.int .i64 2)], .agg [.lit (.int .i64 2), .lit (.int .i64 2), .lit (.int .i64 3)], .agg [.lit (.int .i64 2), .lit (.int .i64 3), .lit (.int .i64 3)], .agg [.lit (.int .i64 3), .lit (.int .i64 3), .lit (.int .i64 4)], .agg [.lit (.int .i64 4), .lit (.int .i64 4), .lit (.int .i64 5)], .agg [.lit (.int .i64 5), .lit (.int .i64 4), .lit (.int .i64 6)], .agg [.lit (.int .i64 5), .lit (.int .i64 5), .lit (.int .i64 6)], .agg [.lit (.int .i64 6), .lit (.int .i64 2), .lit (.int .i64 1)], .agg [.lit (.int .i64 6), .lit (.int .i64 3), .lit (.int .i64 1)]]

/-- 'payrolllaw40.RunLimits': WHATEVER THE INPUT: true; the input reads as it did. -/
def runLimitsSpec : ChangeSpec := { name := "runLimits", fn := fun _ => fun
  | [d] => { results := [.lit (.bool true)], args := [d] }
  | _ => none }
def runLimitsRow : OpenClaim := { program := "ytolkdidcmingkaadoor", sum := "04c0f9755e18c7bb523b54e05c5a54b329d62d99d94b9d2cc8a802de9470c90a", func := "payroll/payrolllaw40.RunLimits", spec := "runLimits", named := ["payroll/run.transitions"], apart := false, laid := [("payroll/run.transitions", laid_payroll_run_transitions)] }
def RunLimitsSaid : Prop := runLimitsRow.holds Tryd.pinned (OpenSpec.ofChange runLimitsSpec)

/-- ITS FALSE NEIGHBOUR: 'it returns false'. Refute it at one input. -/
def runLimitsWrong : ChangeSpec := { name := "runLimits", fn := fun _ => fun
  | [d] => { results := [.lit (.bool false)], args := [d] }
  | _ => none }
def RunLimitsWrongFalsely : Prop := runLimitsRow.holds Tryd.pinned (OpenSpec.ofChange runLimitsWrong)

/-- 'payrolllaw40.RunReplays': WHATEVER THE INPUT: true; the input reads as it did. -/
def runReplaysSpec : ChangeSpec := { name := "runReplays", fn := fun _ => fun
  | [d] => { results := [.lit (.bool true)], args := [d] }
  | _ => none }
def runReplaysRow : OpenClaim := { program := "ytolkdidcmingkaadoor", sum := "04c0f9755e18c7bb523b54e05c5a54b329d62d99d94b9d2cc8a802de9470c90a", func := "payroll/payrolllaw40.RunReplays", spec := "runReplays", named := ["payroll/run.transitions"], apart := false, laid := [("payroll/run.transitions", laid_payroll_run_transitions)] }
def RunReplaysSaid : Prop := runReplaysRow.holds Tryd.pinned (OpenSpec.ofChange runReplaysSpec)

/-- ITS FALSE NEIGHBOUR: 'it returns false'. Refute it at one input. -/
def runReplaysWrong : ChangeSpec := { name := "runReplays", fn := fun _ => fun
  | [d] => { results := [.lit (.bool false)], args := [d] }
  | _ => none }
def RunReplaysWrongFalsely : Prop := runReplaysRow.holds Tryd.pinned (OpenSpec.ofChange runReplaysWrong)

/-- 'payrolllaw40.RunPaid': WHATEVER THE INPUT: true; the input reads as it did. -/
def runPaidSpec : ChangeSpec := { name := "runPaid", fn := fun _ => fun
  | [d] => { results := [.lit (.bool true)], args := [d] }
  | _ => none }
def runPaidRow : OpenClaim := { program := "ytolkdidcmingkaadoor", sum := "04c0f9755e18c7bb523b54e05c5a54b329d62d99d94b9d2cc8a802de9470c90a", func := "payroll/payrolllaw40.RunPaid", spec := "runPaid", named := ["payroll/run.transitions"], apart := false, laid := [("payroll/run.transitions", laid_payroll_run_transitions)] }
def RunPaidSaid : Prop := runPaidRow.holds Tryd.pinned (OpenSpec.ofChange runPaidSpec)

/-- ITS FALSE NEIGHBOUR: 'it returns false'. Refute it at one input. -/
def runPaidWrong : ChangeSpec := { name := "runPaid", fn := fun _ => fun
  | [d] => { results := [.lit (.bool false)], args := [d] }
  | _ => none }
def RunPaidWrongFalsely : Prop := runPaidRow.holds Tryd.pinned (OpenSpec.ofChange runPaidWrong)

/-- 'payrolllaw40.RunSteps': WHATEVER THE INPUT: true; the input reads as it did. -/
def runStepsSpec : ChangeSpec := { name := "runSteps", fn := fun _ => fun
  | [d] => { results := [.lit (.bool true)], args := [d] }
  | _ => none }
def runStepsRow : OpenClaim := { program := "ytolkdidcmingkaadoor", sum := "04c0f9755e18c7bb523b54e05c5a54b329d62d99d94b9d2cc8a802de9470c90a", func := "payroll/payrolllaw40.RunSteps", spec := "runSteps", named := ["payroll/run.transitions"], apart := false, laid := [("payroll/run.transitions", laid_payroll_run_transitions)] }
def RunStepsSaid : Prop := runStepsRow.holds Tryd.pinned (OpenSpec.ofChange runStepsSpec)

/-- ITS FALSE NEIGHBOUR: 'it returns false'. Refute it at one input. -/
def runStepsWrong : ChangeSpec := { name := "runSteps", fn := fun _ => fun
  | [d] => { results := [.lit (.bool false)], args := [d] }
  | _ => none }
def RunStepsWrongFalsely : Prop := runStepsRow.holds Tryd.pinned (OpenSpec.ofChange runStepsWrong)

/-- 'payrolllaw40.RunRaw': WHATEVER THE INPUT: true; the input reads as it did. -/
def runRawSpec : ChangeSpec := { name := "runRaw", fn := fun _ => fun
  | [d1, d2, d3] => { results := [.lit (.bool true)], args := [d1, d2, d3] }
  | _ => none }
def runRawRow : OpenClaim := { program := "ytolkdidcmingkaadoor", sum := "04c0f9755e18c7bb523b54e05c5a54b329d62d99d94b9d2cc8a802de9470c90a", func := "payroll/payrolllaw40.RunRaw", spec := "runRaw", named := ["payroll/run.transitions"], apart := false, laid := [("payroll/run.transitions", laid_payroll_run_transitions)] }
def RunRawSaid : Prop := runRawRow.holds Tryd.pinned (OpenSpec.ofChange runRawSpec)

/-- ITS FALSE NEIGHBOUR: 'it returns false'. Refute it at one input. -/
def runRawWrong : ChangeSpec := { name := "runRaw", fn := fun _ => fun
  | [d1, d2, d3] => { results := [.lit (.bool false)], args := [d1, d2, d3] }
  | _ => none }
def RunRawWrongFalsely : Prop := runRawRow.holds Tryd.pinned (OpenSpec.ofChange runRawWrong)

/-- 'payrolllaw40.RunPermits': WHATEVER THE INPUT: true; the input reads as it did. -/
def runPermitsSpec : ChangeSpec := { name := "runPermits", fn := fun _ => fun
  | [d1, d2] => { results := [.lit (.bool true)], args := [d1, d2] }
  | _ => none }
def runPermitsRow : OpenClaim := { program := "ytolkdidcmingkaadoor", sum := "04c0f9755e18c7bb523b54e05c5a54b329d62d99d94b9d2cc8a802de9470c90a", func := "payroll/payrolllaw40.RunPermits", spec := "runPermits", named := ["payroll/run.transitions"], apart := false, laid := [("payroll/run.transitions", laid_payroll_run_transitions)] }
def RunPermitsSaid : Prop := runPermitsRow.holds Tryd.pinned (OpenSpec.ofChange runPermitsSpec)

/-- ITS FALSE NEIGHBOUR: 'it returns false'. Refute it at one input. -/
def runPermitsWrong : ChangeSpec := { name := "runPermits", fn := fun _ => fun
  | [d1, d2] => { results := [.lit (.bool false)], args := [d1, d2] }
  | _ => none }
def RunPermitsWrongFalsely : Prop := runPermitsRow.holds Tryd.pinned (OpenSpec.ofChange runPermitsWrong)

/- THE SECOND FORM. 'bulk': how many values and letters a reading holds, each counted each time it is reached (what is shared counts as often as it is met; a slice's spare places count too). A statement '..UptoSaid' is the law's where the arguments, and the package variables that the reading takes, are together of bulk at most 1048576: NARROWER than '..Said'. Prove '..Said' where nothing that the law and all that it calls make is longer than what came in: it says more and counts as full. Else prove '..UptoSaid'. A law counts once. -/
mutual
def uptoBulk {H : Type} : DataW H → Nat
  | .lit (.string bytes) => bytes.length + 1
  | .lit _ => 1
  | .nil => 1
  | .ptr d => uptoBulk d + 1
  | .slice elems spare => uptoBulkAll elems + uptoBulkAll spare + 1
  | .agg parts => uptoBulkAll parts + 1
  | .iface _ d => uptoBulk d + 1
  | .map entries => uptoBulkEntries entries + 1
  | .held _ => 1
def uptoBulkAll {H : Type} : List (DataW H) → Nat
  | [] => 0
  | d :: r => uptoBulk d + uptoBulkAll r
def uptoBulkEntries {H : Type} : List (Lit × DataW H) → Nat
  | [] => 0
  | x :: r => uptoBulkEntry x + uptoBulkEntries r
def uptoBulkEntry {H : Type} : Lit × DataW H → Nat
  | (.string bytes, d) => bytes.length + uptoBulk d + 1
  | (_, d) => uptoBulk d + 1
 end
def uptoSmall : (H : Type) → List (DataW H) → Bool := fun _ ds => decide (uptoBulkAll ds ≤ 1048576)
def OpenSpec.upto (s : _root_.Go.ChangeSpec) : _root_.Go.OpenSpec := { _root_.Go.OpenSpec.ofChange s with cond := some uptoSmall }

/-- 'payrolllaw40.RunLimits', WHERE WHAT IT READS IS OF BULK AT MOST 1048576: true; the input reads as it did. -/
def runLimitsUptoRow : OpenClaim := { program := "ytolkdidcmingkaadoor", sum := "04c0f9755e18c7bb523b54e05c5a54b329d62d99d94b9d2cc8a802de9470c90a", func := "payroll/payrolllaw40.RunLimits", spec := "runLimits", named := ["payroll/run.transitions"], apart := false, laid := [("payroll/run.transitions", laid_payroll_run_transitions)], narrowed := true }
def RunLimitsUptoSaid : Prop := runLimitsUptoRow.holds Tryd.pinned (OpenSpec.upto runLimitsSpec)

/-- 'payrolllaw40.RunReplays', WHERE WHAT IT READS IS OF BULK AT MOST 1048576: true; the input reads as it did. -/
def runReplaysUptoRow : OpenClaim := { program := "ytolkdidcmingkaadoor", sum := "04c0f9755e18c7bb523b54e05c5a54b329d62d99d94b9d2cc8a802de9470c90a", func := "payroll/payrolllaw40.RunReplays", spec := "runReplays", named := ["payroll/run.transitions"], apart := false, laid := [("payroll/run.transitions", laid_payroll_run_transitions)], narrowed := true }
def RunReplaysUptoSaid : Prop := runReplaysUptoRow.holds Tryd.pinned (OpenSpec.upto runReplaysSpec)

/-- 'payrolllaw40.RunPaid', WHERE WHAT IT READS IS OF BULK AT MOST 1048576: true; the input reads as it did. -/
def runPaidUptoRow : OpenClaim := { program := "ytolkdidcmingkaadoor", sum := "04c0f9755e18c7bb523b54e05c5a54b329d62d99d94b9d2cc8a802de9470c90a", func := "payroll/payrolllaw40.RunPaid", spec := "runPaid", named := ["payroll/run.transitions"], apart := false, laid := [("payroll/run.transitions", laid_payroll_run_transitions)], narrowed := true }
def RunPaidUptoSaid : Prop := runPaidUptoRow.holds Tryd.pinned (OpenSpec.upto runPaidSpec)

/-- 'payrolllaw40.RunSteps', WHERE WHAT IT READS IS OF BULK AT MOST 1048576: true; the input reads as it did. -/
def runStepsUptoRow : OpenClaim := { program := "ytolkdidcmingkaadoor", sum := "04c0f9755e18c7bb523b54e05c5a54b329d62d99d94b9d2cc8a802de9470c90a", func := "payroll/payrolllaw40.RunSteps", spec := "runSteps", named := ["payroll/run.transitions"], apart := false, laid := [("payroll/run.transitions", laid_payroll_run_transitions)], narrowed := true }
def RunStepsUptoSaid : Prop := runStepsUptoRow.holds Tryd.pinned (OpenSpec.upto runStepsSpec)

/-- 'payrolllaw40.RunRaw', WHERE WHAT IT READS IS OF BULK AT MOST 1048576: true; the input reads as it did. -/
def runRawUptoRow : OpenClaim := { program := "ytolkdidcmingkaadoor", sum := "04c0f9755e18c7bb523b54e05c5a54b329d62d99d94b9d2cc8a802de9470c90a", func := "payroll/payrolllaw40.RunRaw", spec := "runRaw", named := ["payroll/run.transitions"], apart := false, laid := [("payroll/run.transitions", laid_payroll_run_transitions)], narrowed := true }
def RunRawUptoSaid : Prop := runRawUptoRow.holds Tryd.pinned (OpenSpec.upto runRawSpec)

/-- 'payrolllaw40.RunPermits', WHERE WHAT IT READS IS OF BULK AT MOST 1048576: true; the input reads as it did. -/
def runPermitsUptoRow : OpenClaim := { program := "ytolkdidcmingkaadoor", sum := "04c0f9755e18c7bb523b54e05c5a54b329d62d99d94b9d2cc8a802de9470c90a", func := "payroll/payrolllaw40.RunPermits", spec := "runPermits", named := ["payroll/run.transitions"], apart := false, laid := [("payroll/run.transitions", laid_payroll_run_transitions)], narrowed := true }
def RunPermitsUptoSaid : Prop := runPermitsUptoRow.holds Tryd.pinned (OpenSpec.upto runPermitsSpec)

end Rows
end Go.Proofs.YtolkdidcmingkaaDoor
