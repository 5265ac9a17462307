/-
  Regions that draw their order and write to memory of their own: what is known of the memory that was there at the beginning holds throughout. No program in sight; no conditions.
-/
import Derived.Test.YtagkdkkpgcolkaaReg
namespace Go.Proofs.Ytagkdkkpgcolkaa
open Go.RowKit
set_option linter.unusedVariables false
set_option linter.unusedSimpArgs false
/-- the orders, as a tree: a step, or a fork where one of two may come up -/
inductive PT where
  | nil
  | cons (i : Nat) (b : Bool) (p : PT)
  | fork (i j : Nat) (p q : PT)
def PT.len : PT → Nat
  | .nil => 0
  | .cons _ _ p => p.len + 1
  | .fork _ _ p _ => p.len + 1
def ordT (ops : Array Oper) : PT → Array Bool → Bool
  | .nil, L => Region.ready .any ops L == []
  | .cons i b p, L => (if b then Region.free .any ops L i && (Region.ready .any ops L).contains i else Region.ready .any ops L == [i]) && ordT ops p (L.setIfInBounds i true)
  | .fork i j p q, L => Region.ready .any ops L == [i, j] && p.len == q.len && ordT ops p (L.setIfInBounds i true) && ordT ops q (L.setIfInBounds j true)
def regT (ops : Array Oper) (p : PT) : Bool := Region.noSelect ops && (p.len == ops.size) && ordT ops p (Array.replicate ops.size false)
structure WN (P : Program) (ops : Array Oper) (Q : Exit → Act → World → Prop) (w0 : World) (l : PT) (a : Act) (w : World) : Prop where
  out : Region.noSelect ops = true → (∀ c a (d : Option Tmp) v w, Q (.panic c) (a.put d v) w → Q (.panic c) a w) → Bel w0 w → ∀ L, ordT ops l L = true → wpAnyH P .any ops Q (Bel w0) l.len L a w
section
variable {P : Program} {ops : Array Oper} {Q : Exit → Act → World → Prop} {l l' : PT} {a : Act} {w0 w w' : World} {i : Nat} {o : Oper} {d : Option Tmp} {v : Value}
theorem n_take (hi : ops[i]? = some o) (hw : Region.wanted o (yielded ops a.tmps) = true) (hd : o.dst = d) (hx : ∀ W, Bel w0 W → (execOp a.eval o).run P W = .ok (.value v) W) (h : WN P ops Q w0 l (a.put d v) w) : WN P ops Q w0 (.cons i true l) a w := by
  subst hd
  refine ⟨fun hs hQ hB L hL => ?_⟩
  unfold ordT at hL
  simp only [if_pos, Bool.and_eq_true] at hL
  exact wpAnyH_take hi hs hL.1.1 hL.1.2 (fun c a w => hQ c a _ _ w) (.inl ⟨hw, hx⟩) hB (h.out hs hQ hB _ hL.2)
theorem n_skip (hi : ops[i]? = some o) (hw : Region.wanted o (yielded ops a.tmps) = false) (hd : o.dst = d) (h : WN P ops Q w0 l (a.put d undef) w) : WN P ops Q w0 (.cons i true l) a w := by
  subst hd
  refine ⟨fun hs hQ hB L hL => ?_⟩
  unfold ordT at hL
  simp only [if_pos, Bool.and_eq_true] at hL
  exact wpAnyH_take hi hs hL.1.1 hL.1.2 (fun c a w => hQ c a _ _ w) (.inr ⟨hw, rfl⟩) hB (h.out hs hQ hB _ hL.2)
theorem n_call {f : FuncId} {args : Array Value} (hi : ops[i]? = some o) (hw : Region.wanted o (yielded ops a.tmps) = true) (hd : o.dst = d) (hx : (execOp a.eval o).run P w = .ok (.enter f args) w)
    (h : Calls P f args w fun e w' => ∃ v, e = .returned v ∧ Bel w0 w' ∧ WN P ops Q w0 l (a.put d v) w') : WN P ops Q w0 (.cons i false l) a w := by
  subst hd
  refine ⟨fun hs hQ hB L hL => ?_⟩
  unfold ordT at hL
  simp only [Bool.false_eq_true, if_false, Bool.and_eq_true, beq_iff_eq] at hL
  refine wpAnyH_ready hL.1 (by simp) (AllReadyH.cons hi (fun K hK => ?_) AllReadyH.nil)
  rw [if_pos hw]
  unfold Oper.wp
  rw [hx, Oper.upon_enter]
  refine h.mono ?_
  rintro e w' ⟨v, rfl, hS, h⟩
  exact hK.out _ _ hS (fun _ => h.out hs hQ hS _ hL.2)
theorem n_val (hi : ops[i]? = some o) (hw : Region.wanted o (yielded ops a.tmps) = true) (hd : o.dst = d) (hx : (execOp a.eval o).run P w = .ok (.value v) w') (hS : Bel w0 w') (h : WN P ops Q w0 l (a.put d v) w') : WN P ops Q w0 (.cons i false l) a w := by
  subst hd
  refine ⟨fun hs hQ hB L hL => ?_⟩
  unfold ordT at hL
  simp only [Bool.false_eq_true, if_false, Bool.and_eq_true, beq_iff_eq] at hL
  refine wpAnyH_ready hL.1 (by simp) (AllReadyH.cons hi (fun K hK => ?_) AllReadyH.nil)
  rw [if_pos hw]
  unfold Oper.wp
  rw [hx, Oper.upon_value]
  exact hK.out _ _ hS (fun _ => h.out hs hQ hS _ hL.2)
/-- a call or a step that makes memory, whichever comes first -/
theorem n_fork {f : FuncId} {args : Array Value} {j : Nat} {o' : Oper} {d' : Option Tmp} {v' : Value} (hi : ops[i]? = some o) (hw : Region.wanted o (yielded ops a.tmps) = true) (hd : o.dst = d) (hx : (execOp a.eval o).run P w = .ok (.enter f args) w)
    (hj : ops[j]? = some o') (hw' : Region.wanted o' (yielded ops a.tmps) = true) (hd' : o'.dst = d') (hx' : (execOp a.eval o').run P w = .ok (.value v') w') (hS' : Bel w0 w')
    (h : Calls P f args w fun e w' => ∃ v, e = .returned v ∧ Bel w0 w' ∧ WN P ops Q w0 l (a.put d v) w') (h' : WN P ops Q w0 l' (a.put d' v') w') : WN P ops Q w0 (.fork i j l l') a w := by
  subst hd hd'
  refine ⟨fun hs hQ hB L hL => ?_⟩
  unfold ordT at hL
  simp only [Bool.and_eq_true, beq_iff_eq] at hL
  obtain ⟨⟨⟨k1, k2⟩, k3⟩, k4⟩ := hL
  refine wpAnyH_ready k1 (by simp) (AllReadyH.cons hi (fun K hK => ?_) (AllReadyH.cons hj (fun K hK => ?_) AllReadyH.nil))
  · rw [if_pos hw]
    unfold Oper.wp
    rw [hx, Oper.upon_enter]
    refine h.mono ?_
    rintro e w' ⟨v, rfl, hS, h⟩
    exact hK.out _ _ hS (fun _ => h.out hs hQ hS _ k3)
  · rw [if_pos hw']
    unfold Oper.wp
    rw [hx', Oper.upon_value]
    exact hK.out _ _ hS' (fun _ => by have := h'.out hs hQ hS' _ k4; rw [← k2] at this; exact this)
theorem n_unit (hi : ops[i]? = some o) (hw : Region.wanted o (yielded ops a.tmps) = true) (hd : o.dst = none) (hx : (execOp a.eval o).run P w = .ok .skip w') (hS : Bel w0 w') (h : WN P ops Q w0 l a w') : WN P ops Q w0 (.cons i false l) a w := by
  refine ⟨fun hs hQ hB L hL => ?_⟩
  unfold ordT at hL
  simp only [Bool.false_eq_true, if_false, Bool.and_eq_true, beq_iff_eq] at hL
  refine wpAnyH_ready hL.1 (by simp) (AllReadyH.cons hi (fun K hK => ?_) AllReadyH.nil)
  rw [if_pos hw]
  unfold Oper.wp
  rw [hx, Oper.upon_skip, hd]
  exact hK.out _ _ hS (fun _ => h.out hs hQ hS _ hL.2)
theorem n_done (h : Q .normal a w) : WN P ops Q w0 .nil a w := ⟨fun hs hQ hB L hL => by
  unfold ordT at hL
  exact wpAnyH_done (beq_iff_eq.1 hL) h _⟩
theorem wp_region_WN {id : Nat} (hm : P.follows .mixedOrders = true) (hok : regT ops l = true) (hQ : ∀ c a (d : Nat) v w, Q (.panic c) (a.put (some d) v) w → Q (.panic c) a w) (h : WN P ops Q w.drew l a w.drew) : (Code.region id ops true).wp P Q a w := by
  unfold regT at hok
  simp only [Bool.and_eq_true, beq_iff_eq] at hok
  have := h.out hok.1.1 (fun c a d v w h => by
    cases d with
    | none => exact h
    | some d => exact hQ c a d v w h) (Bel.refl _) _ hok.2
  rw [hok.1.2] at this
  exact wp_region_held hm this
end
section
variable {P : Program} {o : Oper} {a : Act} {w : World}
theorem x_extract {x : Operand} {i : Nat} {vs : Array Value} {v : Value} (ho : o.op = .extract x i) (hx : a.eval x = .tuple vs) (hv : vs[i]? = some v) : (execOp a.eval o).run P w = .ok (.value v) w := by
  unfold execOp
  have hr : (Instr.extract (.tuple vs) i).run P w = .ok v w := by simp [Instr.extract, hv]
  simp only [ho, hx, Sem.run_bind, hr, Sem.run_pure, Result.andThen_ok]
end
theorem x_alloc38 {o : Oper} {a : Act} {w : World} (ho : o.op = .alloc 38) : (execOp a.eval o).run Try.prog w = .ok (.value (.pointer (some ⟨w.heap.size, 0, none⟩))) (w.alloc (.cells #[.int .i64 0, .int .i64 0] 38)) := by
  have h : (execOp a.eval { o with op := .alloc 38 }).run Try.prog w = .ok (.value (.pointer (some ⟨w.heap.size, 0, none⟩))) (w.alloc (.cells #[.int .i64 0, .int .i64 0] 38)) := by kernel_rfl
  rw [← ho] at h
  exact h
theorem store38 {w : World} {g : Nat} {x y : Int} (h : Blk w g 38 #[.int .i64 0, .int .i64 0]) : (storeVar 38 ⟨g, 0, none⟩ (.agg #[.int .i64 x, .int .i64 y])).run Try.prog w = .ok () ((w.setCell ⟨g, 0, none⟩ (.int .i64 x)).setCell ⟨g, 1, none⟩ (.int .i64 y)) := by
  have hsz : (sizeOf 38).run Try.prog w = .ok 2 w := by kernel_rfl
  have hc : (Value.agg #[.int .i64 x, .int .i64 y]).cells = #[.int .i64 x, .int .i64 y] := rfl
  have c0 := h.cell 0
  have c1 := (h.set_ 0 (.int .i64 x)).cell 1
  have f0 := h.frozen 0
  have f1 := (h.set_ 0 (.int .i64 x)).frozen 1
  simp at c0 c1
  unfold storeVar
  rw [Sem.run_bind, hsz, Result.andThen_ok, hc]
  have ha : (⟨g, 0, none⟩ : Addr).add 0 = ⟨g, 0, none⟩ := rfl
  have hb : (⟨g, 0, none⟩ : Addr).add 1 = ⟨g, 1, none⟩ := rfl
  simp [storeCells, ha, hb, c0, c1, f0, f1, go_sem]
end Go.Proofs.Ytagkdkkpgcolkaa
