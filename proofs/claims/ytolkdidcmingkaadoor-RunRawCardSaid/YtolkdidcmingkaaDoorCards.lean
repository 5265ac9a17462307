/-
  DERIVED. GIVEN WITH THE SEED: THE CARDS: each row of YtolkdidcmingkaaDoorRows.lean that lists a variable, with what it lists TIED to the program's text (the seventh form; the later family's looks); each row that meets fmt, with fmt's text TOLD by the authors' own Lean function (tested against real Go, not proved from fmt's source: count such statements apart). THE CARD IS WHAT COUNTS. Prove the row's statement (the work); the ties are given (YtolkdidcmingkaaDoorTie.lean); close each card by the builder's one call (the guide's Derived/Test/ToyasCard.lean, 'card_holds'). Laid BY PROGRAM, IN A SANDBOX (cutbox-door.mjs). By AI agents, Wed Nov 11 2026. No macro, syntax, notation, axiom, sorry.
-/
import Derived.Test.YtolkdidcmingkaaDoorRows
import GoSem.ClaimSeven
namespace Go.Proofs.YtolkdidcmingkaaDoor
namespace Rows

/-- THE TIED CARD OF 'payrolllaw40.RunLimits'. -/
def runLimitsCard : Claim7 := { stood := { row := runLimitsRow, standIns := [], harness := (true, "bc7beec3430e3cad9b028d9bb9bf06fc0f56ca32899d6b732b20f1496402ae69"), looks := false }, kinds := [], alts := [], laidByText := true, laidKinds := [.data], laidTests := true, laidLooks := .later }
def RunLimitsCardSaid : Prop := Claim7.holds Tryd.pinned (.plain (OpenSpec.ofChange runLimitsSpec)) runLimitsCard

/-- THE TIED CARD OF 'payrolllaw40.RunReplays'. -/
def runReplaysCard : Claim7 := { stood := { row := runReplaysRow, standIns := [], harness := (true, "bc7beec3430e3cad9b028d9bb9bf06fc0f56ca32899d6b732b20f1496402ae69"), looks := false }, kinds := [], alts := [], laidByText := true, laidKinds := [.data], laidTests := true, laidLooks := .later }
def RunReplaysCardSaid : Prop := Claim7.holds Tryd.pinned (.plain (OpenSpec.ofChange runReplaysSpec)) runReplaysCard

/-- THE TIED CARD OF 'payrolllaw40.RunPaid'. -/
def runPaidCard : Claim7 := { stood := { row := runPaidRow, standIns := [], harness := (true, "bc7beec3430e3cad9b028d9bb9bf06fc0f56ca32899d6b732b20f1496402ae69"), looks := false }, kinds := [], alts := [], laidByText := true, laidKinds := [.data], laidTests := true, laidLooks := .later }
def RunPaidCardSaid : Prop := Claim7.holds Tryd.pinned (.plain (OpenSpec.ofChange runPaidSpec)) runPaidCard

/-- THE TIED CARD OF 'payrolllaw40.RunSteps'. -/
def runStepsCard : Claim7 := { stood := { row := runStepsRow, standIns := [], harness := (true, "bc7beec3430e3cad9b028d9bb9bf06fc0f56ca32899d6b732b20f1496402ae69"), looks := false }, kinds := [], alts := [], laidByText := true, laidKinds := [.data], laidTests := true, laidLooks := .later }
def RunStepsCardSaid : Prop := Claim7.holds Tryd.pinned (.plain (OpenSpec.ofChange runStepsSpec)) runStepsCard

/-- THE TIED CARD OF 'payrolllaw40.RunRaw'. -/
def runRawCard : Claim7 := { stood := { row := runRawRow, standIns := [], harness := (true, "bc7beec3430e3cad9b028d9bb9bf06fc0f56ca32899d6b732b20f1496402ae69"), looks := false }, kinds := [], alts := [], laidByText := true, laidKinds := [.data], laidTests := true, laidLooks := .later }
def RunRawCardSaid : Prop := Claim7.holds Tryd.pinned (.plain (OpenSpec.ofChange runRawSpec)) runRawCard

/-- THE TIED CARD OF 'payrolllaw40.RunPermits'. -/
def runPermitsCard : Claim7 := { stood := { row := runPermitsRow, standIns := [], harness := (true, "bc7beec3430e3cad9b028d9bb9bf06fc0f56ca32899d6b732b20f1496402ae69"), looks := false }, kinds := [], alts := [], laidByText := true, laidKinds := [.data], laidTests := true, laidLooks := .later }
def RunPermitsCardSaid : Prop := Claim7.holds Tryd.pinned (.plain (OpenSpec.ofChange runPermitsSpec)) runPermitsCard

/-- THE SECOND FORM's CARD OF 'payrolllaw40.RunLimits'. -/
def runLimitsUptoCard : Claim7 := { stood := { row := runLimitsUptoRow, standIns := [], harness := (true, "bc7beec3430e3cad9b028d9bb9bf06fc0f56ca32899d6b732b20f1496402ae69"), looks := false }, kinds := [], alts := [], laidByText := true, laidKinds := [.data], laidTests := true, laidLooks := .later }
def RunLimitsUptoCardSaid : Prop := Claim7.holds Tryd.pinned (.plain (OpenSpec.upto runLimitsSpec)) runLimitsUptoCard

/-- THE SECOND FORM's CARD OF 'payrolllaw40.RunReplays'. -/
def runReplaysUptoCard : Claim7 := { stood := { row := runReplaysUptoRow, standIns := [], harness := (true, "bc7beec3430e3cad9b028d9bb9bf06fc0f56ca32899d6b732b20f1496402ae69"), looks := false }, kinds := [], alts := [], laidByText := true, laidKinds := [.data], laidTests := true, laidLooks := .later }
def RunReplaysUptoCardSaid : Prop := Claim7.holds Tryd.pinned (.plain (OpenSpec.upto runReplaysSpec)) runReplaysUptoCard

/-- THE SECOND FORM's CARD OF 'payrolllaw40.RunPaid'. -/
def runPaidUptoCard : Claim7 := { stood := { row := runPaidUptoRow, standIns := [], harness := (true, "bc7beec3430e3cad9b028d9bb9bf06fc0f56ca32899d6b732b20f1496402ae69"), looks := false }, kinds := [], alts := [], laidByText := true, laidKinds := [.data], laidTests := true, laidLooks := .later }
def RunPaidUptoCardSaid : Prop := Claim7.holds Tryd.pinned (.plain (OpenSpec.upto runPaidSpec)) runPaidUptoCard

/-- THE SECOND FORM's CARD OF 'payrolllaw40.RunSteps'. -/
def runStepsUptoCard : Claim7 := { stood := { row := runStepsUptoRow, standIns := [], harness := (true, "bc7beec3430e3cad9b028d9bb9bf06fc0f56ca32899d6b732b20f1496402ae69"), looks := false }, kinds := [], alts := [], laidByText := true, laidKinds := [.data], laidTests := true, laidLooks := .later }
def RunStepsUptoCardSaid : Prop := Claim7.holds Tryd.pinned (.plain (OpenSpec.upto runStepsSpec)) runStepsUptoCard

/-- THE SECOND FORM's CARD OF 'payrolllaw40.RunRaw'. -/
def runRawUptoCard : Claim7 := { stood := { row := runRawUptoRow, standIns := [], harness := (true, "bc7beec3430e3cad9b028d9bb9bf06fc0f56ca32899d6b732b20f1496402ae69"), looks := false }, kinds := [], alts := [], laidByText := true, laidKinds := [.data], laidTests := true, laidLooks := .later }
def RunRawUptoCardSaid : Prop := Claim7.holds Tryd.pinned (.plain (OpenSpec.upto runRawSpec)) runRawUptoCard

/-- THE SECOND FORM's CARD OF 'payrolllaw40.RunPermits'. -/
def runPermitsUptoCard : Claim7 := { stood := { row := runPermitsUptoRow, standIns := [], harness := (true, "bc7beec3430e3cad9b028d9bb9bf06fc0f56ca32899d6b732b20f1496402ae69"), looks := false }, kinds := [], alts := [], laidByText := true, laidKinds := [.data], laidTests := true, laidLooks := .later }
def RunPermitsUptoCardSaid : Prop := Claim7.holds Tryd.pinned (.plain (OpenSpec.upto runPermitsSpec)) runPermitsUptoCard
end Rows
end Go.Proofs.YtolkdidcmingkaaDoor
