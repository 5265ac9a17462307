/-
  Drawn regions that write own memory: a base world that is older than the region; two steps that make memory, whichever comes first. No program in sight; no conditions.
-/
import Derived.Test.YtagkdkkpgcolkaaRegN
namespace Go.Proofs.Ytagkdkkpgcolkaa
open Go.RowKit
set_option linter.unusedVariables false
set_option linter.unusedSimpArgs false
section
variable {P : Program} {ops : Array Oper} {Q : Exit → Act → World → Prop} {l l' : PT} {a : Act} {w0 w w' w'' : World} {i : Nat} {o : Oper} {d : Option Tmp} {v : Value}
/-- two steps that make memory, whichever comes first -/
theorem n_fork2 {j : Nat} {o' : Oper} {d' : Option Tmp} {v' : Value} (hi : ops[i]? = some o) (hw : Region.wanted o (yielded ops a.tmps) = true) (hd : o.dst = d) (hx : (execOp a.eval o).run P w = .ok (.value v) w'') (hS : Bel w0 w'')
    (hj : ops[j]? = some o') (hw' : Region.wanted o' (yielded ops a.tmps) = true) (hd' : o'.dst = d') (hx' : (execOp a.eval o').run P w = .ok (.value v') w') (hS' : Bel w0 w')
    (h : WN P ops Q w0 l (a.put d v) w'') (h' : WN P ops Q w0 l' (a.put d' v') w') : WN P ops Q w0 (.fork i j l l') a w := by
  subst hd hd'
  refine ⟨fun hs hQ hB L hL => ?_⟩
  unfold ordT at hL
  simp only [Bool.and_eq_true, beq_iff_eq] at hL
  obtain ⟨⟨⟨k1, k2⟩, k3⟩, k4⟩ := hL
  refine wpAnyH_ready k1 (by simp) (AllReadyH.cons hi (fun K hK => ?_) (AllReadyH.cons hj (fun K hK => ?_) AllReadyH.nil))
  · rw [if_pos hw]
    unfold Oper.wp
    rw [hx, Oper.upon_value]
    exact hK.out _ _ hS (fun _ => h.out hs hQ hS _ k3)
  · rw [if_pos hw']
    unfold Oper.wp
    rw [hx', Oper.upon_value]
    exact hK.out _ _ hS' (fun _ => by have := h'.out hs hQ hS' _ k4; rw [← k2] at this; exact this)
theorem wp_region_WN0 {id : Nat} (hm : P.follows .mixedOrders = true) (hok : regT ops l = true) (hQ : ∀ c a (d : Nat) v w, Q (.panic c) (a.put (some d) v) w → Q (.panic c) a w) (hb : Bel w0 w.drew) (h : WN P ops Q w0 l a w.drew) : (Code.region id ops true).wp P Q a w := by
  unfold regT at hok
  simp only [Bool.and_eq_true, beq_iff_eq] at hok
  have := h.out hok.1.1 (fun c a d v w h => by
    cases d with
    | none => exact h
    | some d => exact hQ c a d v w h) hb _ hok.2
  rw [hok.1.2] at this
  exact wp_region_held hm this
end
end Go.Proofs.Ytagkdkkpgcolkaa
