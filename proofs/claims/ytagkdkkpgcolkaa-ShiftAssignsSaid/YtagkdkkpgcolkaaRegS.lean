/-
  Drawn regions: what is known of memory (S) holds throughout; each step may make memory or write, if S holds behind it. No program in sight; no conditions.
-/
import Derived.Test.YtagkdkkpgcolkaaRegM
namespace Go.Proofs.Ytagkdkkpgcolkaa
open Go.RowKit
set_option linter.unusedVariables false
set_option linter.unusedSimpArgs false
structure WS (P : Program) (ops : Array Oper) (Q : Exit → Act → World → Prop) (S : World → Prop) (l : PT) (a : Act) (w : World) : Prop where
  out : Region.noSelect ops = true → (∀ c a (d : Option Tmp) v w, Q (.panic c) (a.put d v) w → Q (.panic c) a w) → S w → ∀ L, ordT ops l L = true → wpAnyH P .any ops Q S l.len L a w
section
variable {P : Program} {ops : Array Oper} {Q : Exit → Act → World → Prop} {l l' : PT} {a : Act} {S : World → Prop} {w w' w'' : World} {i : Nat} {o : Oper} {d : Option Tmp} {v : Value}
theorem stake_ (hi : ops[i]? = some o) (hw : Region.wanted o (yielded ops a.tmps) = true) (hd : o.dst = d) (hx : ∀ W, S W → (execOp a.eval o).run P W = .ok (.value v) W) (h : WS P ops Q S l (a.put d v) w) : WS P ops Q S (.cons i true l) a w := by
  subst hd
  refine ⟨fun hs hQ hB L hL => ?_⟩
  unfold ordT at hL
  simp only [if_pos, Bool.and_eq_true] at hL
  exact wpAnyH_take hi hs hL.1.1 hL.1.2 (fun c a w => hQ c a _ _ w) (.inl ⟨hw, hx⟩) hB (h.out hs hQ hB _ hL.2)
theorem sskip_ (hi : ops[i]? = some o) (hw : Region.wanted o (yielded ops a.tmps) = false) (hd : o.dst = d) (h : WS P ops Q S l (a.put d undef) w) : WS P ops Q S (.cons i true l) a w := by
  subst hd
  refine ⟨fun hs hQ hB L hL => ?_⟩
  unfold ordT at hL
  simp only [if_pos, Bool.and_eq_true] at hL
  exact wpAnyH_take hi hs hL.1.1 hL.1.2 (fun c a w => hQ c a _ _ w) (.inr ⟨hw, rfl⟩) hB (h.out hs hQ hB _ hL.2)
theorem scall_ {f : FuncId} {args : Array Value} (hi : ops[i]? = some o) (hw : Region.wanted o (yielded ops a.tmps) = true) (hd : o.dst = d) (hx : (execOp a.eval o).run P w = .ok (.enter f args) w)
    (h : Calls P f args w fun e w' => ∃ v, e = .returned v ∧ S w' ∧ WS P ops Q S l (a.put d v) w') : WS P ops Q S (.cons i false l) a w := by
  subst hd
  refine ⟨fun hs hQ hB L hL => ?_⟩
  unfold ordT at hL
  simp only [Bool.false_eq_true, if_false, Bool.and_eq_true, beq_iff_eq] at hL
  refine wpAnyH_ready hL.1 (by simp) (AllReadyH.cons hi (fun K hK => ?_) AllReadyH.nil)
  rw [if_pos hw]
  unfold Oper.wp
  rw [hx, Oper.upon_enter]
  refine h.mono ?_
  rintro e w' ⟨v, rfl, hS, h⟩
  exact hK.out _ _ hS (fun _ => h.out hs hQ hS _ hL.2)
theorem sval_ (hi : ops[i]? = some o) (hw : Region.wanted o (yielded ops a.tmps) = true) (hd : o.dst = d) (hx : (execOp a.eval o).run P w = .ok (.value v) w') (hS : S w') (h : WS P ops Q S l (a.put d v) w') : WS P ops Q S (.cons i false l) a w := by
  subst hd
  refine ⟨fun hs hQ hB L hL => ?_⟩
  unfold ordT at hL
  simp only [Bool.false_eq_true, if_false, Bool.and_eq_true, beq_iff_eq] at hL
  refine wpAnyH_ready hL.1 (by simp) (AllReadyH.cons hi (fun K hK => ?_) AllReadyH.nil)
  rw [if_pos hw]
  unfold Oper.wp
  rw [hx, Oper.upon_value]
  exact hK.out _ _ hS (fun _ => h.out hs hQ hS _ hL.2)
/-- a call or a step that makes memory, whichever comes first -/
theorem sfork_ {f : FuncId} {args : Array Value} {j : Nat} {o' : Oper} {d' : Option Tmp} {v' : Value} (hi : ops[i]? = some o) (hw : Region.wanted o (yielded ops a.tmps) = true) (hd : o.dst = d) (hx : (execOp a.eval o).run P w = .ok (.enter f args) w)
    (hj : ops[j]? = some o') (hw' : Region.wanted o' (yielded ops a.tmps) = true) (hd' : o'.dst = d') (hx' : (execOp a.eval o').run P w = .ok (.value v') w') (hS' : S w')
    (h : Calls P f args w fun e w' => ∃ v, e = .returned v ∧ S w' ∧ WS P ops Q S l (a.put d v) w') (h' : WS P ops Q S l' (a.put d' v') w') : WS P ops Q S (.fork i j l l') a w := by
  subst hd hd'
  refine ⟨fun hs hQ hB L hL => ?_⟩
  unfold ordT at hL
  simp only [Bool.and_eq_true, beq_iff_eq] at hL
  obtain ⟨⟨⟨k1, k2⟩, k3⟩, k4⟩ := hL
  refine wpAnyH_ready k1 (by simp) (AllReadyH.cons hi (fun K hK => ?_) (AllReadyH.cons hj (fun K hK => ?_) AllReadyH.nil))
  · rw [if_pos hw]
    unfold Oper.wp
    rw [hx, Oper.upon_enter]
    refine h.mono ?_
    rintro e w' ⟨v, rfl, hS, h⟩
    exact hK.out _ _ hS (fun _ => h.out hs hQ hS _ k3)
  · rw [if_pos hw']
    unfold Oper.wp
    rw [hx', Oper.upon_value]
    exact hK.out _ _ hS' (fun _ => by have := h'.out hs hQ hS' _ k4; rw [← k2] at this; exact this)
theorem sunit_ (hi : ops[i]? = some o) (hw : Region.wanted o (yielded ops a.tmps) = true) (hd : o.dst = none) (hx : (execOp a.eval o).run P w = .ok .skip w') (hS : S w') (h : WS P ops Q S l a w') : WS P ops Q S (.cons i false l) a w := by
  refine ⟨fun hs hQ hB L hL => ?_⟩
  unfold ordT at hL
  simp only [Bool.false_eq_true, if_false, Bool.and_eq_true, beq_iff_eq] at hL
  refine wpAnyH_ready hL.1 (by simp) (AllReadyH.cons hi (fun K hK => ?_) AllReadyH.nil)
  rw [if_pos hw]
  unfold Oper.wp
  rw [hx, Oper.upon_skip, hd]
  exact hK.out _ _ hS (fun _ => h.out hs hQ hS _ hL.2)
theorem sdone_ (h : Q .normal a w) : WS P ops Q S .nil a w := ⟨fun hs hQ hB L hL => by
  unfold ordT at hL
  exact wpAnyH_done (beq_iff_eq.1 hL) h _⟩
/-- two steps that make memory, whichever comes first -/
theorem sfork2_ {j : Nat} {o' : Oper} {d' : Option Tmp} {v' : Value} (hi : ops[i]? = some o) (hw : Region.wanted o (yielded ops a.tmps) = true) (hd : o.dst = d) (hx : (execOp a.eval o).run P w = .ok (.value v) w'') (hS : S w'')
    (hj : ops[j]? = some o') (hw' : Region.wanted o' (yielded ops a.tmps) = true) (hd' : o'.dst = d') (hx' : (execOp a.eval o').run P w = .ok (.value v') w') (hS' : S w')
    (h : WS P ops Q S l (a.put d v) w'') (h' : WS P ops Q S l' (a.put d' v') w') : WS P ops Q S (.fork i j l l') a w := by
  subst hd hd'
  refine ⟨fun hs hQ hB L hL => ?_⟩
  unfold ordT at hL
  simp only [Bool.and_eq_true, beq_iff_eq] at hL
  obtain ⟨⟨⟨k1, k2⟩, k3⟩, k4⟩ := hL
  refine wpAnyH_ready k1 (by simp) (AllReadyH.cons hi (fun K hK => ?_) (AllReadyH.cons hj (fun K hK => ?_) AllReadyH.nil))
  · rw [if_pos hw]
    unfold Oper.wp
    rw [hx, Oper.upon_value]
    exact hK.out _ _ hS (fun _ => h.out hs hQ hS _ k3)
  · rw [if_pos hw']
    unfold Oper.wp
    rw [hx', Oper.upon_value]
    exact hK.out _ _ hS' (fun _ => by have := h'.out hs hQ hS' _ k4; rw [← k2] at this; exact this)
theorem wp_region_WS {id : Nat} (hm : P.follows .mixedOrders = true) (hok : regT ops l = true) (hQ : ∀ c a (d : Nat) v w, Q (.panic c) (a.put (some d) v) w → Q (.panic c) a w) (hb : S w.drew) (h : WS P ops Q S l a w.drew) : (Code.region id ops true).wp P Q a w := by
  unfold regT at hok
  simp only [Bool.and_eq_true, beq_iff_eq] at hok
  have := h.out hok.1.1 (fun c a d v w h => by
    cases d with
    | none => exact h
    | some d => exact hQ c a d v w h) hb _ hok.2
  rw [hok.1.2] at this
  exact wp_region_held hm this
end
end Go.Proofs.Ytagkdkkpgcolkaa
