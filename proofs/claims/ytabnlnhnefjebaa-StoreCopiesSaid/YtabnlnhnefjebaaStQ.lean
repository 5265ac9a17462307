/-
  Regions that draw their order over a frame that is a letter: one step at a time. No program in sight; no conditions.
-/
import Derived.Test.YtabnlnhnefjebaaSt4
import Derived.Deep.RegionHeld3
namespace Go.Proofs.Ytabnlnhnefjebaa
open Go.RowKit
set_option linter.unusedVariables false
set_option linter.unusedSimpArgs false
/-- a walk that no tactic looks into -/
structure WQ (P : Program) (ops : Array Oper) (C : World → Prop) (Q : Act → Prop) (l : List Oper) (a : Act) : Prop where
  out : wpQuiet P ops C Q l a
section
variable {P : Program} {ops : Array Oper} {C : World → Prop} {Q : Act → Prop} {rest : List Oper} {o : Oper} {a : Act} {d : Option Tmp}
theorem q_val {v : Value} (hw : Region.wanted o (yielded ops a.tmps) = true) (hd : o.dst = d) (hr : ∀ w, C w → (execOp a.eval o).run P w = .ok (.value v) w) (h : WQ P ops C Q rest (a.put d v)) : WQ P ops C Q (o :: rest) a := by
  refine ⟨wpQuiet_step fun K hK => ?_⟩
  rw [if_pos hw]
  refine ⟨v, fun w hC => ?_, hK _ (by rw [hd]; exact h.out)⟩
  unfold Oper.quietAt
  rw [hr w hC]
  exact ⟨rfl, rfl⟩
theorem q_skip (hw : Region.wanted o (yielded ops a.tmps) = false) (hd : o.dst = d) (h : WQ P ops C Q rest (a.put d undef)) : WQ P ops C Q (o :: rest) a := by
  refine ⟨wpQuiet_step fun K hK => ?_⟩
  rw [if_neg (by rw [hw]; simp)]
  exact hK _ (by rw [hd]; exact h.out)
theorem q_call {v : Value} {f : FuncId} {args : Array Value} (hw : Region.wanted o (yielded ops a.tmps) = true) (hd : o.dst = d) (hr : ∀ w, C w → (execOp a.eval o).run P w = .ok (.enter f args) w)
    (hc : ∀ w, C w → Calls P f args w fun e w' => e = .returned v ∧ C w') (h : WQ P ops C Q rest (a.put d v)) : WQ P ops C Q (o :: rest) a := by
  refine ⟨wpQuiet_step fun K hK => ?_⟩
  rw [if_pos hw]
  refine ⟨v, fun w hC => ?_, hK _ (by rw [hd]; exact h.out)⟩
  unfold Oper.quietAt
  rw [hr w hC]
  exact ⟨rfl, hc w hC⟩
theorem wp_region_quietC {id : Nat} {Q : Exit → Act → World → Prop} {w : World} {l : List Oper} (hm : P.follows .mixedOrders = true) (hB : Region.lexB .any l.toArray = true) (hC : C w.drew)
    (h : WQ P l.toArray C (fun a' => ∀ w', C w' → Q .normal a' w') l a) : (Code.region id l.toArray true).wp P Q a w :=
  wp_region_quiet (C := C) hm hB hC (by simpa using h.out)
theorem q_nil (h : Q a) : WQ P ops C Q [] a := ⟨wpQuiet_nil h⟩
end
/-- a walk over whatever order that no tactic looks into -/
structure WH (P : Program) (ops : Array Oper) (Q : Exit → Act → World → Prop) (S : World → Prop) (fuel : Nat) (listed : Array Bool) (a : Act) (w : World) : Prop where
  out : wpAnyH P .any ops Q S fuel listed a w
section
variable {P : Program} {ops : Array Oper} {Q : Exit → Act → World → Prop} {S : World → Prop} {fuel : Nat} {listed : Array Bool} {a : Act} {w : World} {i : Nat} {o : Oper} {d : Option Tmp} {v : Value}
theorem h_take (hi : ops[i]? = some o) (hs : Region.noSelect ops = true) (hf : Region.free .any ops listed i = true) (hr : (Region.ready .any ops listed).contains i = true) (hQ : ∀ c a w, Q (.panic c) (a.put d v) w → Q (.panic c) a w)
    (hw : Region.wanted o (yielded ops a.tmps) = true) (hd : o.dst = d) (hx : ∀ W, S W → (execOp a.eval o).run P W = .ok (.value v) W) (hS : S w) (h : WH P ops Q S fuel (listed.setIfInBounds i true) (a.put d v) w) : WH P ops Q S (fuel + 1) listed a w := by
  subst hd
  exact ⟨wpAnyH_take hi hs hf hr hQ (.inl ⟨hw, hx⟩) hS h.out⟩
theorem h_skip (hi : ops[i]? = some o) (hs : Region.noSelect ops = true) (hf : Region.free .any ops listed i = true) (hr : (Region.ready .any ops listed).contains i = true) (hQ : ∀ c a w, Q (.panic c) (a.put d undef) w → Q (.panic c) a w)
    (hw : Region.wanted o (yielded ops a.tmps) = false) (hd : o.dst = d) (hS : S w) (h : WH P ops Q S fuel (listed.setIfInBounds i true) (a.put d undef) w) : WH P ops Q S (fuel + 1) listed a w := by
  subst hd
  exact ⟨wpAnyH_take hi hs hf hr hQ (.inr ⟨hw, rfl⟩) hS h.out⟩
theorem h_val {w' : World} (hr : Region.ready .any ops listed = [i]) (hi : ops[i]? = some o) (hw : Region.wanted o (yielded ops a.tmps) = true) (hd : o.dst = d) (hx : (execOp a.eval o).run P w = .ok (.value v) w') (hS : S w') (h : WH P ops Q S fuel (listed.setIfInBounds i true) (a.put d v) w') : WH P ops Q S (fuel + 1) listed a w := by
  refine ⟨wpAnyH_ready hr (by simp) (AllReadyH.cons hi (fun K hK => ?_) AllReadyH.nil)⟩
  rw [if_pos hw]
  unfold Oper.wp
  rw [hx, Oper.upon_value, hd]
  exact hK.out _ _ hS (fun _ => h.out)
theorem h_call {f : FuncId} {args : Array Value} (hr : Region.ready .any ops listed = [i]) (hi : ops[i]? = some o) (hw : Region.wanted o (yielded ops a.tmps) = true) (hd : o.dst = d) (hx : (execOp a.eval o).run P w = .ok (.enter f args) w)
    (h : Calls P f args w fun e w' => ∃ v, e = .returned v ∧ S w' ∧ WH P ops Q S fuel (listed.setIfInBounds i true) (a.put d v) w') : WH P ops Q S (fuel + 1) listed a w := by
  refine ⟨wpAnyH_ready hr (by simp) (AllReadyH.cons hi (fun K hK => ?_) AllReadyH.nil)⟩
  rw [if_pos hw]
  unfold Oper.wp
  rw [hx, Oper.upon_enter, hd]
  refine h.mono ?_
  rintro e w' ⟨v, rfl, hS, h⟩
  exact hK.out _ _ hS (fun _ => h.out)
/-- one of two that may come up -/
theorem h_two {j : Nat} {o' : Oper} (hr : Region.ready .any ops listed = [i, j]) (hi : ops[i]? = some o) (hj : ops[j]? = some o')
    (h1 : ∀ K : Act → World → Prop, (∀ a w, S w → WH P ops Q S fuel (listed.setIfInBounds i true) a w → K a w) → if Region.wanted o (yielded ops a.tmps) = true then Oper.wp P o a w K Q else K (a.put o.dst undef) w)
    (h2 : ∀ K : Act → World → Prop, (∀ a w, S w → WH P ops Q S fuel (listed.setIfInBounds j true) a w → K a w) → if Region.wanted o' (yielded ops a.tmps) = true then Oper.wp P o' a w K Q else K (a.put o'.dst undef) w) : WH P ops Q S (fuel + 1) listed a w :=
  ⟨wpAnyH_ready hr (by simp) (AllReadyH.cons hi (fun K hK => h1 K (fun a w hS h => hK.out a w hS (fun _ => h.out))) (AllReadyH.cons hj (fun K hK => h2 K (fun a w hS h => hK.out a w hS (fun _ => h.out))) AllReadyH.nil))⟩
theorem s_val {K : Act → World → Prop} {E : Prop} {w' : World} (hw : Region.wanted o (yielded ops a.tmps) = true) (hd : o.dst = d) (hx : (execOp a.eval o).run P w = .ok (.value v) w') (h : K (a.put d v) w') : if Region.wanted o (yielded ops a.tmps) = true then Oper.wp P o a w K Q else E := by
  rw [if_pos hw]
  unfold Oper.wp
  rw [hx, Oper.upon_value, hd]
  exact h
theorem s_call {K : Act → World → Prop} {E : Prop} {f : FuncId} {args : Array Value} (hw : Region.wanted o (yielded ops a.tmps) = true) (hd : o.dst = d) (hx : (execOp a.eval o).run P w = .ok (.enter f args) w) (h : Calls P f args w fun e w' => ∃ v, e = .returned v ∧ K (a.put d v) w') : if Region.wanted o (yielded ops a.tmps) = true then Oper.wp P o a w K Q else E := by
  rw [if_pos hw]
  unfold Oper.wp
  rw [hx, Oper.upon_enter, hd]
  refine h.mono ?_
  rintro e w' ⟨v, rfl, h⟩
  exact h
theorem h_done (hr : Region.ready .any ops listed = []) (h : Q .normal a w) : WH P ops Q S fuel listed a w := ⟨wpAnyH_done hr h fuel⟩
theorem wp_region_WH {id : Nat} (hm : P.follows .mixedOrders = true) (h : WH P ops Q S ops.size (Array.replicate ops.size false) a w.drew) : (Code.region id ops true).wp P Q a w := wp_region_held hm h.out
end
theorem wanted_none {ops : Array Oper} {o : Oper} {tmps : Array Value} (h : o.guard = none) : Region.wanted o (yielded ops tmps) = true := by simp [Region.wanted, h]
theorem yielded_of {ops : Array Oper} {a : Act} {i t : Nat} {oi : Oper} {v : Bool} (hi : ops[i]? = some oi) (hd : oi.dst = some t) (he : a.eval (.tmp t) = .bool v) : yielded ops a.tmps i = some v := by
  unfold yielded
  rw [hi]
  simp only [Option.bind_some, hd]
  have he : a.tmps.getD t undef = .bool v := he
  rw [Array.getD_eq_getD_getElem?] at he
  cases hq : a.tmps[t]? with
  | none => rw [hq] at he; simp [undef] at he
  | some u => rw [hq] at he; simp at he; rw [he]
theorem wanted_yes {ops : Array Oper} {o oi : Oper} {a : Act} {i t : Nat} {v : Bool} (hg : o.guard = some (i, v)) (hi : ops[i]? = some oi) (hd : oi.dst = some t) (he : a.eval (.tmp t) = .bool v) : Region.wanted o (yielded ops a.tmps) = true := by
  simp [Region.wanted, hg, yielded_of hi hd he]
theorem wanted_no {ops : Array Oper} {o oi : Oper} {a : Act} {i t : Nat} {v : Bool} (hg : o.guard = some (i, v)) (hi : ops[i]? = some oi) (hd : oi.dst = some t) (he : a.eval (.tmp t) = .bool (!v)) : Region.wanted o (yielded ops a.tmps) = false := by
  simp [Region.wanted, hg, yielded_of hi hd he]
section
variable {P : Program} {o : Oper} {a : Act} {w : World}
theorem x_move {x : Operand} {v : Value} (ho : o.op = .move x) (hx : a.eval x = v) : (execOp a.eval o).run P w = .ok (.value v) w := by
  unfold execOp; simp only [ho, hx, Sem.run_pure]
theorem x_assign {x : Operand} {v : Value} (ho : o.op = .assign x) (hx : a.eval x = v) : (execOp a.eval o).run P w = .ok (.value v) w := by
  unfold execOp; simp only [ho, hx, Sem.run_pure]
theorem x_nil {x : Operand} {ad : Addr} (ho : o.op = .nilCheck x) (hx : a.eval x = .pointer (some ad)) : (execOp a.eval o).run P w = .ok (.value (.pointer (some ad))) w := by
  unfold execOp; simp only [ho, hx, Sem.run_pure]
theorem x_field {x : Operand} {t : TypeId} {k : Nat} {u v : Value} (ho : o.op = .fieldAddr t x k) (hx : a.eval x = u) (hr : (Instr.fieldAt t u k).run P w = .ok v w) : (execOp a.eval o).run P w = .ok (.value v) w := by
  unfold execOp; simp only [ho, hx, Sem.run_bind, hr, Sem.run_pure, Result.andThen_ok]
theorem x_len {x : Operand} {t : TypeId} {u v : Value} (ho : o.op = .call { callee := .builtin .len, args := #[x], argTypes := #[t] }) (hx : a.eval x = u) (hr : (Builtin.len_ #[t] o.type #[u]).run P w = .ok v w) : (execOp a.eval o).run P w = .ok (.value v) w := by
  unfold execOp
  simp only [ho, resolve, invoke, builtin, Sem.run_bind, Sem.run_pure, Result.andThen_ok, List.map_toArray, List.map_cons, List.map_nil, hx, hr]
theorem x_bin {b : BinOp} {x y : Operand} {t t' : TypeId} {k : IntKind} {m n : Int} {v : Value} (ho : o.op = .binOp b t x y t') (hx : a.eval x = .int k m) (hy : a.eval y = .int k n) (hr : (binOp b t (.int k m) (.int k n)).run P w = .ok v w) : (execOp a.eval o).run P w = .ok (.value v) w := by
  unfold execOp
  have hg : (eqGuard b t x y (.int k m) (.int k n)).run P w = .ok () w := by cases b <;> simp [eqGuard]
  simp only [ho, hx, hy, Sem.run_bind, hg, hr, Sem.run_pure, Result.andThen_ok]
theorem x_not {x : Operand} {t : TypeId} {v : Bool} (ho : o.op = .unOp .not t x) (hx : a.eval x = .bool v) : (execOp a.eval o).run P w = .ok (.value (.bool (!v))) w := by
  unfold execOp
  simp [ho, hx, Op.unary]
theorem x_pick {c x y : Operand} {v : Bool} {u : Value} (ho : o.op = .pick c x y) (hc : a.eval c = .bool v) (hu : (if v = true then a.eval x else a.eval y) = u) : (execOp a.eval o).run P w = .ok (.value u) w := by
  unfold execOp
  simp only [ho, hc, asBool, Sem.run_bind, Sem.run_pure, Result.andThen_ok, hu]
theorem x_call1 {f : FuncId} {x : Operand} {t : TypeId} {u : Value} (ho : o.op = .call { callee := .value (.func f), args := #[x], argTypes := #[t] }) (hx : a.eval x = u) (hf : (callFunc f #[u]).run P w = .ok (.enter f #[u]) w) : (execOp a.eval o).run P w = .ok (.enter f #[u]) w := by
  have hv : a.eval (.func f) = .func (.func f) #[] #[] := rfl
  unfold execOp
  simp [ho, resolve, Deferred.ofValue, invoke, hv, hx, hf]
theorem x_call2 {f : FuncId} {x y : Operand} {t t' : TypeId} {u v : Value} (ho : o.op = .call { callee := .value (.func f), args := #[x, y], argTypes := #[t, t'] }) (hx : a.eval x = u) (hy : a.eval y = v) (hf : (callFunc f #[u, v]).run P w = .ok (.enter f #[u, v]) w) : (execOp a.eval o).run P w = .ok (.enter f #[u, v]) w := by
  have hv : a.eval (.func f) = .func (.func f) #[] #[] := rfl
  unfold execOp
  simp [ho, resolve, Deferred.ofValue, invoke, hv, hx, hy, hf]
end
theorem cf37 (args : Array Value) (w : World) : (callFunc 37 args).run Try.prog w = .ok (.enter 37 args) w := by kernel_rfl
theorem cf38 (args : Array Value) (w : World) : (callFunc 38 args).run Try.prog w = .ok (.enter 38 args) w := by kernel_rfl
end Go.Proofs.Ytabnlnhnefjebaa
