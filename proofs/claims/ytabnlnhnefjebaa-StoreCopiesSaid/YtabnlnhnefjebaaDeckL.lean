/-
  Deck.Left. The memory is that of the given program; no conditions.
-/
import Derived.Test.YtabnlnhnefjebaaDeck0
namespace Go.Proofs.Ytabnlnhnefjebaa
open Go.RowKit
set_option linter.unusedVariables false
set_option linter.unusedSimpArgs false
def DeckBool (g : Nat) (N : Int) (w : World) (e : Ending) (w' : World) : Prop := ∃ b : Bool, e = .returned (.bool b) ∧ Only g w w' ∧ Deck w' g N
set_option maxHeartbeats 400000 in
theorem left_any (g : Nat) (N : Int) (w : World) (hD : Deck w g N) (hN : N ≤ 1000000) : Calls Try.prog 42 #[.pointer (some ⟨g, 0, none⟩)] w (DeckBool g N w) := by
  have HD := Lib.hid hD
  obtain ⟨A, c, l, k, hb, hr, hl, hk⟩ := hD
  have hc0 : w.cell? ⟨g, 0, none⟩ = some (.slice A l.length c) := hb.cell 0
  have hc1 : w.cell? ⟨g, 1, none⟩ = some (.int .i64 (k : Int)) := hb.cell 1
  clear hb hr
  go_enter Try.func42, Try.ntmps42
  go_wp2
  go_quiet (fail)
  go_wp2
  go_ret
  exact ⟨_, rfl, (Only.refl g w).drewN _, HD.out.drewN _⟩
end Go.Proofs.Ytabnlnhnefjebaa
