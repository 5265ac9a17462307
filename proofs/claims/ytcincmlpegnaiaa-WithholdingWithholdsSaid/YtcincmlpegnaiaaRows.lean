/-
  No cell of these rows narrows 'for every input' (looked for: loops, veiled, ifaces, maps, wideKeys, modest, calm, conditions, laid).
  DERIVED. THE GIVEN ROWS OF THIS SEAT. 8 by the template 'for every input the law returns true; each argument reads behind the call as it read before'; 0 by the template 'total and deterministic' (their statements: YtcincmlpegnaiaaTotals.lean).
  GIVEN WITH THE SEED: the statements are not yours to turn. If you find one false, say at which input.
  Laid BY PROGRAM, IN A SANDBOX (cutbox-rows.mjs): the forced cells as the released guide's own fill.sh prints them over the translation 6d9bd82a60816dbb… (all of the seat's roots in one cut). By AI agents, Wed Nov 11 2026. No macro, syntax, notation, axiom, sorry.
-/
import Derived.Test.YtcincmlpegnaiaaChecked
import GoSem.Claim
import GoSem.ClaimJoined
import GoSem.ClaimMapViews
import Derived.JoinedTies
import Derived.KernelRfl
namespace Go.Proofs.Ytcincmlpegnaiaa
/- THE CELL 'sum', in the pinned program and in every row, IS THE sha256 OF THE DUMP (.gsa) THAT YtcincmlpegnaiaaProg.lean LOADS. Nothing in Lean hashes anything: it is a label: what it is worth is what the hold of that sum in a sandbox is worth. -/
noncomputable def Try.pinned : Pinned := { name := "ytcincmlpegnaiaa", sum := "6d9bd82a60816dbbaa798cbee199950fe904987af89d4d7108c298192ee8e6cd", checked := Try.checked }
namespace Rows
def none {H : Type} : Left H := { results := [], args := [] }

/-- 'payrolllaw30.WithholdingWithholds': WHATEVER THE INPUT: true; the input reads as it did. -/
def withholdingWithholdsSpec : ChangeSpec := { name := "withholdingWithholds", fn := fun _ => fun
  | [d1, d2, d3, d4] => { results := [.lit (.bool true)], args := [d1, d2, d3, d4] }
  | _ => none }
def withholdingWithholdsRow : OpenClaim := { program := "ytcincmlpegnaiaa", sum := "6d9bd82a60816dbbaa798cbee199950fe904987af89d4d7108c298192ee8e6cd", func := "payroll/payrolllaw30.WithholdingWithholds", spec := "withholdingWithholds", apart := false }
def WithholdingWithholdsSaid : Prop := withholdingWithholdsRow.holds Try.pinned (OpenSpec.ofChange withholdingWithholdsSpec)

/-- ITS FALSE NEIGHBOUR: 'it returns false'. Refute it at one input. -/
def withholdingWithholdsWrong : ChangeSpec := { name := "withholdingWithholds", fn := fun _ => fun
  | [d1, d2, d3, d4] => { results := [.lit (.bool false)], args := [d1, d2, d3, d4] }
  | _ => none }
def WithholdingWithholdsWrongFalsely : Prop := withholdingWithholdsRow.holds Try.pinned (OpenSpec.ofChange withholdingWithholdsWrong)

/-- 'payrolllaw30.WithholdingDue': WHATEVER THE INPUT: true; the input reads as it did. -/
def withholdingDueSpec : ChangeSpec := { name := "withholdingDue", fn := fun _ => fun
  | [d1, d2, d3, d4, d5] => { results := [.lit (.bool true)], args := [d1, d2, d3, d4, d5] }
  | _ => none }
def withholdingDueRow : OpenClaim := { program := "ytcincmlpegnaiaa", sum := "6d9bd82a60816dbbaa798cbee199950fe904987af89d4d7108c298192ee8e6cd", func := "payroll/payrolllaw30.WithholdingDue", spec := "withholdingDue", apart := false }
def WithholdingDueSaid : Prop := withholdingDueRow.holds Try.pinned (OpenSpec.ofChange withholdingDueSpec)

/-- ITS FALSE NEIGHBOUR: 'it returns false'. Refute it at one input. -/
def withholdingDueWrong : ChangeSpec := { name := "withholdingDue", fn := fun _ => fun
  | [d1, d2, d3, d4, d5] => { results := [.lit (.bool false)], args := [d1, d2, d3, d4, d5] }
  | _ => none }
def WithholdingDueWrongFalsely : Prop := withholdingDueRow.holds Try.pinned (OpenSpec.ofChange withholdingDueWrong)

/-- 'payrolllaw30.WithholdingYear': WHATEVER THE INPUT: true; the input reads as it did. -/
def withholdingYearSpec : ChangeSpec := { name := "withholdingYear", fn := fun _ => fun
  | [d1, d2, d3] => { results := [.lit (.bool true)], args := [d1, d2, d3] }
  | _ => none }
def withholdingYearRow : OpenClaim := { program := "ytcincmlpegnaiaa", sum := "6d9bd82a60816dbbaa798cbee199950fe904987af89d4d7108c298192ee8e6cd", func := "payroll/payrolllaw30.WithholdingYear", spec := "withholdingYear", apart := false }
def WithholdingYearSaid : Prop := withholdingYearRow.holds Try.pinned (OpenSpec.ofChange withholdingYearSpec)

/-- ITS FALSE NEIGHBOUR: 'it returns false'. Refute it at one input. -/
def withholdingYearWrong : ChangeSpec := { name := "withholdingYear", fn := fun _ => fun
  | [d1, d2, d3] => { results := [.lit (.bool false)], args := [d1, d2, d3] }
  | _ => none }
def WithholdingYearWrongFalsely : Prop := withholdingYearRow.holds Try.pinned (OpenSpec.ofChange withholdingYearWrong)

/-- 'payrolllaw30.WithholdingPrefix': WHATEVER THE INPUT: true; the input reads as it did. -/
def withholdingPrefixSpec : ChangeSpec := { name := "withholdingPrefix", fn := fun _ => fun
  | [d] => { results := [.lit (.bool true)], args := [d] }
  | _ => none }
def withholdingPrefixRow : OpenClaim := { program := "ytcincmlpegnaiaa", sum := "6d9bd82a60816dbbaa798cbee199950fe904987af89d4d7108c298192ee8e6cd", func := "payroll/payrolllaw30.WithholdingPrefix", spec := "withholdingPrefix", apart := false }
def WithholdingPrefixSaid : Prop := withholdingPrefixRow.holds Try.pinned (OpenSpec.ofChange withholdingPrefixSpec)

/-- ITS FALSE NEIGHBOUR: 'it returns false'. Refute it at one input. -/
def withholdingPrefixWrong : ChangeSpec := { name := "withholdingPrefix", fn := fun _ => fun
  | [d] => { results := [.lit (.bool false)], args := [d] }
  | _ => none }
def WithholdingPrefixWrongFalsely : Prop := withholdingPrefixRow.holds Try.pinned (OpenSpec.ofChange withholdingPrefixWrong)

/-- 'payrolllaw30.WithholdingEven': WHATEVER THE INPUT: true; the input reads as it did. -/
def withholdingEvenSpec : ChangeSpec := { name := "withholdingEven", fn := fun _ => fun
  | [d1, d2, d3] => { results := [.lit (.bool true)], args := [d1, d2, d3] }
  | _ => none }
def withholdingEvenRow : OpenClaim := { program := "ytcincmlpegnaiaa", sum := "6d9bd82a60816dbbaa798cbee199950fe904987af89d4d7108c298192ee8e6cd", func := "payroll/payrolllaw30.WithholdingEven", spec := "withholdingEven", apart := false }
def WithholdingEvenSaid : Prop := withholdingEvenRow.holds Try.pinned (OpenSpec.ofChange withholdingEvenSpec)

/-- ITS FALSE NEIGHBOUR: 'it returns false'. Refute it at one input. -/
def withholdingEvenWrong : ChangeSpec := { name := "withholdingEven", fn := fun _ => fun
  | [d1, d2, d3] => { results := [.lit (.bool false)], args := [d1, d2, d3] }
  | _ => none }
def WithholdingEvenWrongFalsely : Prop := withholdingEvenRow.holds Try.pinned (OpenSpec.ofChange withholdingEvenWrong)

/-- 'payrolllaw30.WithholdingAnnual': WHATEVER THE INPUT: true; the input reads as it did. -/
def withholdingAnnualSpec : ChangeSpec := { name := "withholdingAnnual", fn := fun _ => fun
  | [d1, d2, d3] => { results := [.lit (.bool true)], args := [d1, d2, d3] }
  | _ => none }
def withholdingAnnualRow : OpenClaim := { program := "ytcincmlpegnaiaa", sum := "6d9bd82a60816dbbaa798cbee199950fe904987af89d4d7108c298192ee8e6cd", func := "payroll/payrolllaw30.WithholdingAnnual", spec := "withholdingAnnual", apart := false }
def WithholdingAnnualSaid : Prop := withholdingAnnualRow.holds Try.pinned (OpenSpec.ofChange withholdingAnnualSpec)

/-- ITS FALSE NEIGHBOUR: 'it returns false'. Refute it at one input. -/
def withholdingAnnualWrong : ChangeSpec := { name := "withholdingAnnual", fn := fun _ => fun
  | [d1, d2, d3] => { results := [.lit (.bool false)], args := [d1, d2, d3] }
  | _ => none }
def WithholdingAnnualWrongFalsely : Prop := withholdingAnnualRow.holds Try.pinned (OpenSpec.ofChange withholdingAnnualWrong)

/-- 'payrolllaw30.WithholdingSums': WHATEVER THE INPUT: true; the input reads as it did. -/
def withholdingSumsSpec : ChangeSpec := { name := "withholdingSums", fn := fun _ => fun
  | [d1, d2] => { results := [.lit (.bool true)], args := [d1, d2] }
  | _ => none }
def withholdingSumsRow : OpenClaim := { program := "ytcincmlpegnaiaa", sum := "6d9bd82a60816dbbaa798cbee199950fe904987af89d4d7108c298192ee8e6cd", func := "payroll/payrolllaw30.WithholdingSums", spec := "withholdingSums", apart := false }
def WithholdingSumsSaid : Prop := withholdingSumsRow.holds Try.pinned (OpenSpec.ofChange withholdingSumsSpec)

/-- ITS FALSE NEIGHBOUR: 'it returns false'. Refute it at one input. -/
def withholdingSumsWrong : ChangeSpec := { name := "withholdingSums", fn := fun _ => fun
  | [d1, d2] => { results := [.lit (.bool false)], args := [d1, d2] }
  | _ => none }
def WithholdingSumsWrongFalsely : Prop := withholdingSumsRow.holds Try.pinned (OpenSpec.ofChange withholdingSumsWrong)

/-- 'payrolllaw30.WithholdingGrows': WHATEVER THE INPUT: true; the input reads as it did. -/
def withholdingGrowsSpec : ChangeSpec := { name := "withholdingGrows", fn := fun _ => fun
  | [d1, d2] => { results := [.lit (.bool true)], args := [d1, d2] }
  | _ => none }
def withholdingGrowsRow : OpenClaim := { program := "ytcincmlpegnaiaa", sum := "6d9bd82a60816dbbaa798cbee199950fe904987af89d4d7108c298192ee8e6cd", func := "payroll/payrolllaw30.WithholdingGrows", spec := "withholdingGrows", apart := false }
def WithholdingGrowsSaid : Prop := withholdingGrowsRow.holds Try.pinned (OpenSpec.ofChange withholdingGrowsSpec)

/-- ITS FALSE NEIGHBOUR: 'it returns false'. Refute it at one input. -/
def withholdingGrowsWrong : ChangeSpec := { name := "withholdingGrows", fn := fun _ => fun
  | [d1, d2] => { results := [.lit (.bool false)], args := [d1, d2] }
  | _ => none }
def WithholdingGrowsWrongFalsely : Prop := withholdingGrowsRow.holds Try.pinned (OpenSpec.ofChange withholdingGrowsWrong)

/- THE SECOND FORM. 'bulk': how many values and letters a reading holds, each counted each time it is reached (what is shared counts as often as it is met; a slice's spare places count too). A statement '..UptoSaid' is the law's where the arguments, and the package variables that the reading takes, are together of bulk at most 1048576: NARROWER than '..Said'. Prove '..Said' where nothing that the law and all that it calls make is longer than what came in: it says more and counts as full. Else prove '..UptoSaid'. A law counts once. -/
mutual
def uptoBulk {H : Type} : DataW H → Nat
  | .lit (.string bytes) => bytes.length + 1
  | .lit _ => 1
  | .nil => 1
  | .ptr d => uptoBulk d + 1
  | .slice elems spare => uptoBulkAll elems + uptoBulkAll spare + 1
  | .agg parts => uptoBulkAll parts + 1
  | .iface _ d => uptoBulk d + 1
  | .map entries => uptoBulkEntries entries + 1
  | .held _ => 1
def uptoBulkAll {H : Type} : List (DataW H) → Nat
  | [] => 0
  | d :: r => uptoBulk d + uptoBulkAll r
def uptoBulkEntries {H : Type} : List (Lit × DataW H) → Nat
  | [] => 0
  | x :: r => uptoBulkEntry x + uptoBulkEntries r
def uptoBulkEntry {H : Type} : Lit × DataW H → Nat
  | (.string bytes, d) => bytes.length + uptoBulk d + 1
  | (_, d) => uptoBulk d + 1
 end
def uptoSmall : (H : Type) → List (DataW H) → Bool := fun _ ds => decide (uptoBulkAll ds ≤ 1048576)
def OpenSpec.upto (s : _root_.Go.ChangeSpec) : _root_.Go.OpenSpec := { _root_.Go.OpenSpec.ofChange s with cond := some uptoSmall }

/-- 'payrolllaw30.WithholdingWithholds', WHERE WHAT IT READS IS OF BULK AT MOST 1048576: true; the input reads as it did. -/
def withholdingWithholdsUptoRow : OpenClaim := { program := "ytcincmlpegnaiaa", sum := "6d9bd82a60816dbbaa798cbee199950fe904987af89d4d7108c298192ee8e6cd", func := "payroll/payrolllaw30.WithholdingWithholds", spec := "withholdingWithholds", apart := false, narrowed := true }
def WithholdingWithholdsUptoSaid : Prop := withholdingWithholdsUptoRow.holds Try.pinned (OpenSpec.upto withholdingWithholdsSpec)

/-- 'payrolllaw30.WithholdingDue', WHERE WHAT IT READS IS OF BULK AT MOST 1048576: true; the input reads as it did. -/
def withholdingDueUptoRow : OpenClaim := { program := "ytcincmlpegnaiaa", sum := "6d9bd82a60816dbbaa798cbee199950fe904987af89d4d7108c298192ee8e6cd", func := "payroll/payrolllaw30.WithholdingDue", spec := "withholdingDue", apart := false, narrowed := true }
def WithholdingDueUptoSaid : Prop := withholdingDueUptoRow.holds Try.pinned (OpenSpec.upto withholdingDueSpec)

/-- 'payrolllaw30.WithholdingYear', WHERE WHAT IT READS IS OF BULK AT MOST 1048576: true; the input reads as it did. -/
def withholdingYearUptoRow : OpenClaim := { program := "ytcincmlpegnaiaa", sum := "6d9bd82a60816dbbaa798cbee199950fe904987af89d4d7108c298192ee8e6cd", func := "payroll/payrolllaw30.WithholdingYear", spec := "withholdingYear", apart := false, narrowed := true }
def WithholdingYearUptoSaid : Prop := withholdingYearUptoRow.holds Try.pinned (OpenSpec.upto withholdingYearSpec)

/-- 'payrolllaw30.WithholdingPrefix', WHERE WHAT IT READS IS OF BULK AT MOST 1048576: true; the input reads as it did. -/
def withholdingPrefixUptoRow : OpenClaim := { program := "ytcincmlpegnaiaa", sum := "6d9bd82a60816dbbaa798cbee199950fe904987af89d4d7108c298192ee8e6cd", func := "payroll/payrolllaw30.WithholdingPrefix", spec := "withholdingPrefix", apart := false, narrowed := true }
def WithholdingPrefixUptoSaid : Prop := withholdingPrefixUptoRow.holds Try.pinned (OpenSpec.upto withholdingPrefixSpec)

/-- 'payrolllaw30.WithholdingEven', WHERE WHAT IT READS IS OF BULK AT MOST 1048576: true; the input reads as it did. -/
def withholdingEvenUptoRow : OpenClaim := { program := "ytcincmlpegnaiaa", sum := "6d9bd82a60816dbbaa798cbee199950fe904987af89d4d7108c298192ee8e6cd", func := "payroll/payrolllaw30.WithholdingEven", spec := "withholdingEven", apart := false, narrowed := true }
def WithholdingEvenUptoSaid : Prop := withholdingEvenUptoRow.holds Try.pinned (OpenSpec.upto withholdingEvenSpec)

/-- 'payrolllaw30.WithholdingAnnual', WHERE WHAT IT READS IS OF BULK AT MOST 1048576: true; the input reads as it did. -/
def withholdingAnnualUptoRow : OpenClaim := { program := "ytcincmlpegnaiaa", sum := "6d9bd82a60816dbbaa798cbee199950fe904987af89d4d7108c298192ee8e6cd", func := "payroll/payrolllaw30.WithholdingAnnual", spec := "withholdingAnnual", apart := false, narrowed := true }
def WithholdingAnnualUptoSaid : Prop := withholdingAnnualUptoRow.holds Try.pinned (OpenSpec.upto withholdingAnnualSpec)

/-- 'payrolllaw30.WithholdingSums', WHERE WHAT IT READS IS OF BULK AT MOST 1048576: true; the input reads as it did. -/
def withholdingSumsUptoRow : OpenClaim := { program := "ytcincmlpegnaiaa", sum := "6d9bd82a60816dbbaa798cbee199950fe904987af89d4d7108c298192ee8e6cd", func := "payroll/payrolllaw30.WithholdingSums", spec := "withholdingSums", apart := false, narrowed := true }
def WithholdingSumsUptoSaid : Prop := withholdingSumsUptoRow.holds Try.pinned (OpenSpec.upto withholdingSumsSpec)

/-- 'payrolllaw30.WithholdingGrows', WHERE WHAT IT READS IS OF BULK AT MOST 1048576: true; the input reads as it did. -/
def withholdingGrowsUptoRow : OpenClaim := { program := "ytcincmlpegnaiaa", sum := "6d9bd82a60816dbbaa798cbee199950fe904987af89d4d7108c298192ee8e6cd", func := "payroll/payrolllaw30.WithholdingGrows", spec := "withholdingGrows", apart := false, narrowed := true }
def WithholdingGrowsUptoSaid : Prop := withholdingGrowsUptoRow.holds Try.pinned (OpenSpec.upto withholdingGrowsSpec)

end Rows
end Go.Proofs.Ytcincmlpegnaiaa
