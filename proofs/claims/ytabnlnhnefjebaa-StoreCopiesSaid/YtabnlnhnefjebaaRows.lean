/-
  No cell of these rows narrows 'for every input' (looked for: loops, veiled, ifaces, maps, wideKeys, modest, calm, conditions, laid).
  DERIVED. THE GIVEN ROWS OF THIS SEAT. 8 by the template 'for every input the law returns true; each argument reads behind the call as it read before'; 0 by the template 'total and deterministic' (their statements: YtabnlnhnefjebaaTotals.lean).
  GIVEN WITH THE SEED: the statements are not yours to turn. If you find one false, say at which input.
  Laid BY PROGRAM, IN A SANDBOX (cutbox-rows.mjs): the forced cells as the released guide's own fill.sh prints them over the translation 9930b32ab5119652… (all of the seat's roots in one cut). By AI agents, Wed Nov 11 2026. No macro, syntax, notation, axiom, sorry.
-/
import Derived.Test.YtabnlnhnefjebaaChecked
import GoSem.Claim
import GoSem.ClaimJoined
import GoSem.ClaimMapViews
import Derived.JoinedTies
import Derived.KernelRfl
namespace Go.Proofs.Ytabnlnhnefjebaa
/- THE CELL 'sum', in the pinned program and in every row, IS THE sha256 OF THE DUMP (.gsa) THAT YtabnlnhnefjebaaProg.lean LOADS. Nothing in Lean hashes anything: it is a label: what it is worth is what the hold of that sum in a sandbox is worth. -/
noncomputable def Try.pinned : Pinned := { name := "ytabnlnhnefjebaa", sum := "9930b32ab511965230eded3de2f9b57eea6f0311f52be17820287f859ef64d38", checked := Try.checked }
namespace Rows
def none {H : Type} : Left H := { results := [], args := [] }

/-- 'payrolllaw41.StoreReads': WHATEVER THE INPUT: true; the input reads as it did. -/
def storeReadsSpec : ChangeSpec := { name := "storeReads", fn := fun _ => fun
  | [d1, d2] => { results := [.lit (.bool true)], args := [d1, d2] }
  | _ => none }
def storeReadsRow : OpenClaim := { program := "ytabnlnhnefjebaa", sum := "9930b32ab511965230eded3de2f9b57eea6f0311f52be17820287f859ef64d38", func := "payroll/payrolllaw41.StoreReads", spec := "storeReads", apart := false }
def StoreReadsSaid : Prop := storeReadsRow.holds Try.pinned (OpenSpec.ofChange storeReadsSpec)

/-- ITS FALSE NEIGHBOUR: 'it returns false'. Refute it at one input. -/
def storeReadsWrong : ChangeSpec := { name := "storeReads", fn := fun _ => fun
  | [d1, d2] => { results := [.lit (.bool false)], args := [d1, d2] }
  | _ => none }
def StoreReadsWrongFalsely : Prop := storeReadsRow.holds Try.pinned (OpenSpec.ofChange storeReadsWrong)

/-- 'payrolllaw41.StoreLimits': WHATEVER THE INPUT: true; the input reads as it did. -/
def storeLimitsSpec : ChangeSpec := { name := "storeLimits", fn := fun _ => fun
  | [d1, d2] => { results := [.lit (.bool true)], args := [d1, d2] }
  | _ => none }
def storeLimitsRow : OpenClaim := { program := "ytabnlnhnefjebaa", sum := "9930b32ab511965230eded3de2f9b57eea6f0311f52be17820287f859ef64d38", func := "payroll/payrolllaw41.StoreLimits", spec := "storeLimits", apart := false }
def StoreLimitsSaid : Prop := storeLimitsRow.holds Try.pinned (OpenSpec.ofChange storeLimitsSpec)

/-- ITS FALSE NEIGHBOUR: 'it returns false'. Refute it at one input. -/
def storeLimitsWrong : ChangeSpec := { name := "storeLimits", fn := fun _ => fun
  | [d1, d2] => { results := [.lit (.bool false)], args := [d1, d2] }
  | _ => none }
def StoreLimitsWrongFalsely : Prop := storeLimitsRow.holds Try.pinned (OpenSpec.ofChange storeLimitsWrong)

/-- 'payrolllaw41.StoreFollows': WHATEVER THE INPUT: true; the input reads as it did. -/
def storeFollowsSpec : ChangeSpec := { name := "storeFollows", fn := fun _ => fun
  | [d1, d2, d3] => { results := [.lit (.bool true)], args := [d1, d2, d3] }
  | _ => none }
def storeFollowsRow : OpenClaim := { program := "ytabnlnhnefjebaa", sum := "9930b32ab511965230eded3de2f9b57eea6f0311f52be17820287f859ef64d38", func := "payroll/payrolllaw41.StoreFollows", spec := "storeFollows", apart := false }
def StoreFollowsSaid : Prop := storeFollowsRow.holds Try.pinned (OpenSpec.ofChange storeFollowsSpec)

/-- ITS FALSE NEIGHBOUR: 'it returns false'. Refute it at one input. -/
def storeFollowsWrong : ChangeSpec := { name := "storeFollows", fn := fun _ => fun
  | [d1, d2, d3] => { results := [.lit (.bool false)], args := [d1, d2, d3] }
  | _ => none }
def StoreFollowsWrongFalsely : Prop := storeFollowsRow.holds Try.pinned (OpenSpec.ofChange storeFollowsWrong)

/-- 'payrolllaw41.StoreOpens': WHATEVER THE INPUT: true; the input reads as it did. -/
def storeOpensSpec : ChangeSpec := { name := "storeOpens", fn := fun _ => fun
  | [d1, d2, d3, d4, d5] => { results := [.lit (.bool true)], args := [d1, d2, d3, d4, d5] }
  | _ => none }
def storeOpensRow : OpenClaim := { program := "ytabnlnhnefjebaa", sum := "9930b32ab511965230eded3de2f9b57eea6f0311f52be17820287f859ef64d38", func := "payroll/payrolllaw41.StoreOpens", spec := "storeOpens", apart := false }
def StoreOpensSaid : Prop := storeOpensRow.holds Try.pinned (OpenSpec.ofChange storeOpensSpec)

/-- ITS FALSE NEIGHBOUR: 'it returns false'. Refute it at one input. -/
def storeOpensWrong : ChangeSpec := { name := "storeOpens", fn := fun _ => fun
  | [d1, d2, d3, d4, d5] => { results := [.lit (.bool false)], args := [d1, d2, d3, d4, d5] }
  | _ => none }
def StoreOpensWrongFalsely : Prop := storeOpensRow.holds Try.pinned (OpenSpec.ofChange storeOpensWrong)

/-- 'payrolllaw41.StoreRecovers': WHATEVER THE INPUT: true; the input reads as it did. -/
def storeRecoversSpec : ChangeSpec := { name := "storeRecovers", fn := fun _ => fun
  | [d1, d2, d3] => { results := [.lit (.bool true)], args := [d1, d2, d3] }
  | _ => none }
def storeRecoversRow : OpenClaim := { program := "ytabnlnhnefjebaa", sum := "9930b32ab511965230eded3de2f9b57eea6f0311f52be17820287f859ef64d38", func := "payroll/payrolllaw41.StoreRecovers", spec := "storeRecovers", apart := false }
def StoreRecoversSaid : Prop := storeRecoversRow.holds Try.pinned (OpenSpec.ofChange storeRecoversSpec)

/-- ITS FALSE NEIGHBOUR: 'it returns false'. Refute it at one input. -/
def storeRecoversWrong : ChangeSpec := { name := "storeRecovers", fn := fun _ => fun
  | [d1, d2, d3] => { results := [.lit (.bool false)], args := [d1, d2, d3] }
  | _ => none }
def StoreRecoversWrongFalsely : Prop := storeRecoversRow.holds Try.pinned (OpenSpec.ofChange storeRecoversWrong)

/-- 'payrolllaw41.StoreReopens': WHATEVER THE INPUT: true; the input reads as it did. -/
def storeReopensSpec : ChangeSpec := { name := "storeReopens", fn := fun _ => fun
  | [d] => { results := [.lit (.bool true)], args := [d] }
  | _ => none }
def storeReopensRow : OpenClaim := { program := "ytabnlnhnefjebaa", sum := "9930b32ab511965230eded3de2f9b57eea6f0311f52be17820287f859ef64d38", func := "payroll/payrolllaw41.StoreReopens", spec := "storeReopens", apart := false }
def StoreReopensSaid : Prop := storeReopensRow.holds Try.pinned (OpenSpec.ofChange storeReopensSpec)

/-- ITS FALSE NEIGHBOUR: 'it returns false'. Refute it at one input. -/
def storeReopensWrong : ChangeSpec := { name := "storeReopens", fn := fun _ => fun
  | [d] => { results := [.lit (.bool false)], args := [d] }
  | _ => none }
def StoreReopensWrongFalsely : Prop := storeReopensRow.holds Try.pinned (OpenSpec.ofChange storeReopensWrong)

/-- 'payrolllaw41.StoreAll': WHATEVER THE INPUT: true; the input reads as it did. -/
def storeAllSpec : ChangeSpec := { name := "storeAll", fn := fun _ => fun
  | [d1, d2, d3] => { results := [.lit (.bool true)], args := [d1, d2, d3] }
  | _ => none }
def storeAllRow : OpenClaim := { program := "ytabnlnhnefjebaa", sum := "9930b32ab511965230eded3de2f9b57eea6f0311f52be17820287f859ef64d38", func := "payroll/payrolllaw41.StoreAll", spec := "storeAll", apart := false }
def StoreAllSaid : Prop := storeAllRow.holds Try.pinned (OpenSpec.ofChange storeAllSpec)

/-- ITS FALSE NEIGHBOUR: 'it returns false'. Refute it at one input. -/
def storeAllWrong : ChangeSpec := { name := "storeAll", fn := fun _ => fun
  | [d1, d2, d3] => { results := [.lit (.bool false)], args := [d1, d2, d3] }
  | _ => none }
def StoreAllWrongFalsely : Prop := storeAllRow.holds Try.pinned (OpenSpec.ofChange storeAllWrong)

/-- 'payrolllaw41.StoreCopies': WHATEVER THE INPUT: true; the input reads as it did. -/
def storeCopiesSpec : ChangeSpec := { name := "storeCopies", fn := fun _ => fun
  | [d] => { results := [.lit (.bool true)], args := [d] }
  | _ => none }
def storeCopiesRow : OpenClaim := { program := "ytabnlnhnefjebaa", sum := "9930b32ab511965230eded3de2f9b57eea6f0311f52be17820287f859ef64d38", func := "payroll/payrolllaw41.StoreCopies", spec := "storeCopies", apart := false }
def StoreCopiesSaid : Prop := storeCopiesRow.holds Try.pinned (OpenSpec.ofChange storeCopiesSpec)

/-- ITS FALSE NEIGHBOUR: 'it returns false'. Refute it at one input. -/
def storeCopiesWrong : ChangeSpec := { name := "storeCopies", fn := fun _ => fun
  | [d] => { results := [.lit (.bool false)], args := [d] }
  | _ => none }
def StoreCopiesWrongFalsely : Prop := storeCopiesRow.holds Try.pinned (OpenSpec.ofChange storeCopiesWrong)

/- THE SECOND FORM. 'bulk': how many values and letters a reading holds, each counted each time it is reached (what is shared counts as often as it is met; a slice's spare places count too). A statement '..UptoSaid' is the law's where the arguments, and the package variables that the reading takes, are together of bulk at most 1048576: NARROWER than '..Said'. Prove '..Said' where nothing that the law and all that it calls make is longer than what came in: it says more and counts as full. Else prove '..UptoSaid'. A law counts once. -/
mutual
def uptoBulk {H : Type} : DataW H → Nat
  | .lit (.string bytes) => bytes.length + 1
  | .lit _ => 1
  | .nil => 1
  | .ptr d => uptoBulk d + 1
  | .slice elems spare => uptoBulkAll elems + uptoBulkAll spare + 1
  | .agg parts => uptoBulkAll parts + 1
  | .iface _ d => uptoBulk d + 1
  | .map entries => uptoBulkEntries entries + 1
  | .held _ => 1
def uptoBulkAll {H : Type} : List (DataW H) → Nat
  | [] => 0
  | d :: r => uptoBulk d + uptoBulkAll r
def uptoBulkEntries {H : Type} : List (Lit × DataW H) → Nat
  | [] => 0
  | x :: r => uptoBulkEntry x + uptoBulkEntries r
def uptoBulkEntry {H : Type} : Lit × DataW H → Nat
  | (.string bytes, d) => bytes.length + uptoBulk d + 1
  | (_, d) => uptoBulk d + 1
 end
def uptoSmall : (H : Type) → List (DataW H) → Bool := fun _ ds => decide (uptoBulkAll ds ≤ 1048576)
def OpenSpec.upto (s : _root_.Go.ChangeSpec) : _root_.Go.OpenSpec := { _root_.Go.OpenSpec.ofChange s with cond := some uptoSmall }

/-- 'payrolllaw41.StoreReads', WHERE WHAT IT READS IS OF BULK AT MOST 1048576: true; the input reads as it did. -/
def storeReadsUptoRow : OpenClaim := { program := "ytabnlnhnefjebaa", sum := "9930b32ab511965230eded3de2f9b57eea6f0311f52be17820287f859ef64d38", func := "payroll/payrolllaw41.StoreReads", spec := "storeReads", apart := false, narrowed := true }
def StoreReadsUptoSaid : Prop := storeReadsUptoRow.holds Try.pinned (OpenSpec.upto storeReadsSpec)

/-- 'payrolllaw41.StoreLimits', WHERE WHAT IT READS IS OF BULK AT MOST 1048576: true; the input reads as it did. -/
def storeLimitsUptoRow : OpenClaim := { program := "ytabnlnhnefjebaa", sum := "9930b32ab511965230eded3de2f9b57eea6f0311f52be17820287f859ef64d38", func := "payroll/payrolllaw41.StoreLimits", spec := "storeLimits", apart := false, narrowed := true }
def StoreLimitsUptoSaid : Prop := storeLimitsUptoRow.holds Try.pinned (OpenSpec.upto storeLimitsSpec)

/-- 'payrolllaw41.StoreFollows', WHERE WHAT IT READS IS OF BULK AT MOST 1048576: true; the input reads as it did. -/
def storeFollowsUptoRow : OpenClaim := { program := "ytabnlnhnefjebaa", sum := "9930b32ab511965230eded3de2f9b57eea6f0311f52be17820287f859ef64d38", func := "payroll/payrolllaw41.StoreFollows", spec := "storeFollows", apart := false, narrowed := true }
def StoreFollowsUptoSaid : Prop := storeFollowsUptoRow.holds Try.pinned (OpenSpec.upto storeFollowsSpec)

/-- 'payrolllaw41.StoreOpens', WHERE WHAT IT READS IS OF BULK AT MOST 1048576: true; the input reads as it did. -/
def storeOpensUptoRow : OpenClaim := { program := "ytabnlnhnefjebaa", sum := "9930b32ab511965230eded3de2f9b57eea6f0311f52be17820287f859ef64d38", func := "payroll/payrolllaw41.StoreOpens", spec := "storeOpens", apart := false, narrowed := true }
def StoreOpensUptoSaid : Prop := storeOpensUptoRow.holds Try.pinned (OpenSpec.upto storeOpensSpec)

/-- 'payrolllaw41.StoreRecovers', WHERE WHAT IT READS IS OF BULK AT MOST 1048576: true; the input reads as it did. -/
def storeRecoversUptoRow : OpenClaim := { program := "ytabnlnhnefjebaa", sum := "9930b32ab511965230eded3de2f9b57eea6f0311f52be17820287f859ef64d38", func := "payroll/payrolllaw41.StoreRecovers", spec := "storeRecovers", apart := false, narrowed := true }
def StoreRecoversUptoSaid : Prop := storeRecoversUptoRow.holds Try.pinned (OpenSpec.upto storeRecoversSpec)

/-- 'payrolllaw41.StoreReopens', WHERE WHAT IT READS IS OF BULK AT MOST 1048576: true; the input reads as it did. -/
def storeReopensUptoRow : OpenClaim := { program := "ytabnlnhnefjebaa", sum := "9930b32ab511965230eded3de2f9b57eea6f0311f52be17820287f859ef64d38", func := "payroll/payrolllaw41.StoreReopens", spec := "storeReopens", apart := false, narrowed := true }
def StoreReopensUptoSaid : Prop := storeReopensUptoRow.holds Try.pinned (OpenSpec.upto storeReopensSpec)

/-- 'payrolllaw41.StoreAll', WHERE WHAT IT READS IS OF BULK AT MOST 1048576: true; the input reads as it did. -/
def storeAllUptoRow : OpenClaim := { program := "ytabnlnhnefjebaa", sum := "9930b32ab511965230eded3de2f9b57eea6f0311f52be17820287f859ef64d38", func := "payroll/payrolllaw41.StoreAll", spec := "storeAll", apart := false, narrowed := true }
def StoreAllUptoSaid : Prop := storeAllUptoRow.holds Try.pinned (OpenSpec.upto storeAllSpec)

/-- 'payrolllaw41.StoreCopies', WHERE WHAT IT READS IS OF BULK AT MOST 1048576: true; the input reads as it did. -/
def storeCopiesUptoRow : OpenClaim := { program := "ytabnlnhnefjebaa", sum := "9930b32ab511965230eded3de2f9b57eea6f0311f52be17820287f859ef64d38", func := "payroll/payrolllaw41.StoreCopies", spec := "storeCopies", apart := false, narrowed := true }
def StoreCopiesUptoSaid : Prop := storeCopiesUptoRow.holds Try.pinned (OpenSpec.upto storeCopiesSpec)

end Rows
end Go.Proofs.Ytabnlnhnefjebaa
