/-
  Regions that draw their order, over a frame that is a letter. No program in sight but the type of numbers; no conditions.
-/
import Derived.Test.YtagkdkkpgcolkaaAppRd
import Derived.Test.YtagkdkkpgcolkaaRet
import Derived.Test.YtagkdkkpgcolkaaTape
import Derived.Deep.RegionHeld3
import Derived.Deep.RegionLaw
import Derived.IntWalk
import Derived.Deep.DeepCutAuto
import Derived.StillTailTactics
import Derived.Lib.SliceRun
namespace Go.Proofs.Ytagkdkkpgcolkaa
open Go.RowKit
set_option linter.unusedVariables false
set_option linter.unusedSimpArgs false
section
variable {a : Act}
theorem put_same (a : Act) (t : Nat) (v : Value) (h : t < a.tmps.size) : (a.put (some t) v).eval (.tmp t) = v := by simp [Act.put, Act.eval, h]
theorem put_other (a : Act) (t s : Nat) (v : Value) (h : s ≠ t) : (a.put (some t) v).eval (.tmp s) = a.eval (.tmp s) := by
  simp only [Act.put, Act.eval, Array.getD_eq_getD_getElem?]
  rw [Array.getElem?_setIfInBounds_ne (by omega)]
theorem put_comm (a : Act) (s t : Nat) (u v : Value) (h : s ≠ t) : (a.put (some s) u).put (some t) v = (a.put (some t) v).put (some s) u := by
  simp only [Act.put]
  rw [Array.setIfInBounds_comm _ _ h]
theorem put_none (a : Act) (v : Value) : a.put none v = a := rfl
theorem put_size (a : Act) (t : Nat) (v : Value) : (a.put (some t) v).tmps.size = a.tmps.size := by simp [Act.put]
end
section
variable {P : Program} {a : Act} {w w2 : World}
theorem exec_load {o : Oper} {ty : TypeId} {x : Operand} {ad : Addr} {v : Value} (ho : o.op = .load ty x) (hx : a.eval x = .pointer (some ad)) (hr : (loadVar ty ad).run P w = .ok v w) : (execOp a.eval o).run P w = .ok (.value v) w := by
  unfold execOp
  simp only [ho, hx, Instr.loadAt, Instr.sureAddr, Sem.run_bind, Sem.run_pure, Result.andThen_ok, hr]
theorem exec_buildSlice {o : Oper} {t : TypeId} {x : Operand} {v u : Value} (ho : o.op = .buildSlice t 1 #[(0, x)]) (hx : a.eval x = v) (hr : (Instr.buildSlice t 1 #[(0, v)]).run P w = .ok u w2) : (execOp a.eval o).run P w = .ok (.value u) w2 := by
  unfold execOp
  simp only [ho, List.map_toArray, List.map_cons, List.map_nil, hx, Sem.run_bind, Sem.run_pure, Result.andThen_ok, hr]
theorem exec_append {o : Oper} {s x : Operand} {t : TypeId} {v u r : Value} (ho : o.op = .call { callee := .builtin .append, args := #[s, x], argTypes := #[t, t] }) (hs : a.eval s = v) (hx : a.eval x = u)
    (hr : (Builtin.append_ #[t, t] o.type #[v, u]).run P w = .ok r w2) : (execOp a.eval o).run P w = .ok (.value r) w2 := by
  unfold execOp
  simp only [ho, resolve, invoke, builtin, Sem.run_bind, Sem.run_pure, Result.andThen_ok, List.map_toArray, List.map_cons, List.map_nil, hs, hx, hr]
theorem exec_store {o : Oper} {ty : TypeId} {x y : Operand} {ad : Addr} {v : Value} (ho : o.op = .store ty x y) (hx : a.eval x = .pointer (some ad)) (hy : a.eval y = v) (hr : (storeVar ty ad v).run P w = .ok () w2) : (execOp a.eval o).run P w = .ok .skip w2 := by
  unfold execOp
  simp only [ho, hx, hy, Instr.storeAt, Instr.sureAddr, Sem.run_bind, Sem.run_pure, Result.andThen_ok, hr]
end
theorem und3 : Try.prog.underlying 3 = some (.int .i64) := by kernel_rfl
theorem add_int (w : World) (m n : Int) (h : -9223372036854775808 ≤ m + n ∧ m + n ≤ 9223372036854775807) : (binOp .add 3 (.int .i64 m) (.int .i64 n)).run Try.prog w = .ok (.int .i64 (m + n)) w := by
  have hw : IntKind.i64.wrap (m + n) = m + n := IntWalk.i64_in _ (by omega)
  simp [binOp, go_sem, und3, hw]
theorem gtr_int (w : World) (m n : Int) : (binOp .gtr 3 (.int .i64 m) (.int .i64 n)).run Try.prog w = .ok (.bool (decide (n < m))) w := by
  simp [binOp, go_sem, und3]
/-- a walk that no tactic looks into -/
structure WQ (P : Program) (ops : Array Oper) (C : World → Prop) (Q : Act → Prop) (l : List Oper) (a : Act) : Prop where
  out : wpQuiet P ops C Q l a
section
variable {P : Program} {ops : Array Oper} {C : World → Prop} {Q : Act → Prop} {rest : List Oper} {o : Oper} {a : Act} {d : Option Tmp}
theorem q_val {v : Value} (hw : Region.wanted o (yielded ops a.tmps) = true) (hd : o.dst = d) (hr : ∀ w, C w → (execOp a.eval o).run P w = .ok (.value v) w) (h : WQ P ops C Q rest (a.put d v)) : WQ P ops C Q (o :: rest) a := by
  refine ⟨wpQuiet_step fun K hK => ?_⟩
  rw [if_pos hw]
  refine ⟨v, fun w hC => ?_, hK _ (by rw [hd]; exact h.out)⟩
  unfold Oper.quietAt
  rw [hr w hC]
  exact ⟨rfl, rfl⟩
theorem q_skip (hw : Region.wanted o (yielded ops a.tmps) = false) (hd : o.dst = d) (h : WQ P ops C Q rest (a.put d undef)) : WQ P ops C Q (o :: rest) a := by
  refine ⟨wpQuiet_step fun K hK => ?_⟩
  rw [if_neg (by rw [hw]; simp)]
  exact hK _ (by rw [hd]; exact h.out)
theorem q_call {v : Value} {f : FuncId} {args : Array Value} (hw : Region.wanted o (yielded ops a.tmps) = true) (hd : o.dst = d) (hr : ∀ w, C w → (execOp a.eval o).run P w = .ok (.enter f args) w)
    (hc : ∀ w, C w → Calls P f args w fun e w' => e = .returned v ∧ C w') (h : WQ P ops C Q rest (a.put d v)) : WQ P ops C Q (o :: rest) a := by
  refine ⟨wpQuiet_step fun K hK => ?_⟩
  rw [if_pos hw]
  refine ⟨v, fun w hC => ?_, hK _ (by rw [hd]; exact h.out)⟩
  unfold Oper.quietAt
  rw [hr w hC]
  exact ⟨rfl, hc w hC⟩
theorem wp_region_quietC {id : Nat} {Q : Exit → Act → World → Prop} {w : World} {l : List Oper} (hm : P.follows .mixedOrders = true) (hB : Region.lexB .any l.toArray = true) (hC : C w.drew)
    (h : WQ P l.toArray C (fun a' => ∀ w', C w' → Q .normal a' w') l a) : (Code.region id l.toArray true).wp P Q a w :=
  wp_region_quiet (C := C) hm hB hC (by simpa using h.out)
theorem q_nil (h : Q a) : WQ P ops C Q [] a := ⟨wpQuiet_nil h⟩
end
/-- a walk over whatever order that no tactic looks into -/
structure WH (P : Program) (ops : Array Oper) (Q : Exit → Act → World → Prop) (S : World → Prop) (fuel : Nat) (listed : Array Bool) (a : Act) (w : World) : Prop where
  out : wpAnyH P .any ops Q S fuel listed a w
section
variable {P : Program} {ops : Array Oper} {Q : Exit → Act → World → Prop} {S : World → Prop} {fuel : Nat} {listed : Array Bool} {a : Act} {w : World} {i : Nat} {o : Oper} {d : Option Tmp} {v : Value}
theorem h_take (hi : ops[i]? = some o) (hs : Region.noSelect ops = true) (hf : Region.free .any ops listed i = true) (hr : (Region.ready .any ops listed).contains i = true) (hQ : ∀ c a w, Q (.panic c) (a.put d v) w → Q (.panic c) a w)
    (hw : Region.wanted o (yielded ops a.tmps) = true) (hd : o.dst = d) (hx : ∀ W, S W → (execOp a.eval o).run P W = .ok (.value v) W) (hS : S w) (h : WH P ops Q S fuel (listed.setIfInBounds i true) (a.put d v) w) : WH P ops Q S (fuel + 1) listed a w := by
  subst hd
  exact ⟨wpAnyH_take hi hs hf hr hQ (.inl ⟨hw, hx⟩) hS h.out⟩
theorem h_skip (hi : ops[i]? = some o) (hs : Region.noSelect ops = true) (hf : Region.free .any ops listed i = true) (hr : (Region.ready .any ops listed).contains i = true) (hQ : ∀ c a w, Q (.panic c) (a.put d undef) w → Q (.panic c) a w)
    (hw : Region.wanted o (yielded ops a.tmps) = false) (hd : o.dst = d) (hS : S w) (h : WH P ops Q S fuel (listed.setIfInBounds i true) (a.put d undef) w) : WH P ops Q S (fuel + 1) listed a w := by
  subst hd
  exact ⟨wpAnyH_take hi hs hf hr hQ (.inr ⟨hw, rfl⟩) hS h.out⟩
theorem h_val {w' : World} (hr : Region.ready .any ops listed = [i]) (hi : ops[i]? = some o) (hw : Region.wanted o (yielded ops a.tmps) = true) (hd : o.dst = d) (hx : (execOp a.eval o).run P w = .ok (.value v) w') (hS : S w') (h : WH P ops Q S fuel (listed.setIfInBounds i true) (a.put d v) w') : WH P ops Q S (fuel + 1) listed a w := by
  refine ⟨wpAnyH_ready hr (by simp) (AllReadyH.cons hi (fun K hK => ?_) AllReadyH.nil)⟩
  rw [if_pos hw]
  unfold Oper.wp
  rw [hx, Oper.upon_value, hd]
  exact hK.out _ _ hS (fun _ => h.out)
theorem h_call {f : FuncId} {args : Array Value} (hr : Region.ready .any ops listed = [i]) (hi : ops[i]? = some o) (hw : Region.wanted o (yielded ops a.tmps) = true) (hd : o.dst = d) (hx : (execOp a.eval o).run P w = .ok (.enter f args) w)
    (h : Calls P f args w fun e w' => ∃ v, e = .returned v ∧ S w' ∧ WH P ops Q S fuel (listed.setIfInBounds i true) (a.put d v) w') : WH P ops Q S (fuel + 1) listed a w := by
  refine ⟨wpAnyH_ready hr (by simp) (AllReadyH.cons hi (fun K hK => ?_) AllReadyH.nil)⟩
  rw [if_pos hw]
  unfold Oper.wp
  rw [hx, Oper.upon_enter, hd]
  refine h.mono ?_
  rintro e w' ⟨v, rfl, hS, h⟩
  exact hK.out _ _ hS (fun _ => h.out)
/-- one of two that may come up -/
theorem h_two {j : Nat} {o' : Oper} (hr : Region.ready .any ops listed = [i, j]) (hi : ops[i]? = some o) (hj : ops[j]? = some o')
    (h1 : ∀ K : Act → World → Prop, (∀ a w, S w → WH P ops Q S fuel (listed.setIfInBounds i true) a w → K a w) → if Region.wanted o (yielded ops a.tmps) = true then Oper.wp P o a w K Q else K (a.put o.dst undef) w)
    (h2 : ∀ K : Act → World → Prop, (∀ a w, S w → WH P ops Q S fuel (listed.setIfInBounds j true) a w → K a w) → if Region.wanted o' (yielded ops a.tmps) = true then Oper.wp P o' a w K Q else K (a.put o'.dst undef) w) : WH P ops Q S (fuel + 1) listed a w :=
  ⟨wpAnyH_ready hr (by simp) (AllReadyH.cons hi (fun K hK => h1 K (fun a w hS h => hK.out a w hS (fun _ => h.out))) (AllReadyH.cons hj (fun K hK => h2 K (fun a w hS h => hK.out a w hS (fun _ => h.out))) AllReadyH.nil))⟩
theorem s_val {K : Act → World → Prop} {E : Prop} {w' : World} (hw : Region.wanted o (yielded ops a.tmps) = true) (hd : o.dst = d) (hx : (execOp a.eval o).run P w = .ok (.value v) w') (h : K (a.put d v) w') : if Region.wanted o (yielded ops a.tmps) = true then Oper.wp P o a w K Q else E := by
  rw [if_pos hw]
  unfold Oper.wp
  rw [hx, Oper.upon_value, hd]
  exact h
theorem s_call {K : Act → World → Prop} {E : Prop} {f : FuncId} {args : Array Value} (hw : Region.wanted o (yielded ops a.tmps) = true) (hd : o.dst = d) (hx : (execOp a.eval o).run P w = .ok (.enter f args) w) (h : Calls P f args w fun e w' => ∃ v, e = .returned v ∧ K (a.put d v) w') : if Region.wanted o (yielded ops a.tmps) = true then Oper.wp P o a w K Q else E := by
  rw [if_pos hw]
  unfold Oper.wp
  rw [hx, Oper.upon_enter, hd]
  refine h.mono ?_
  rintro e w' ⟨v, rfl, h⟩
  exact h
theorem h_done (hr : Region.ready .any ops listed = []) (h : Q .normal a w) : WH P ops Q S fuel listed a w := ⟨wpAnyH_done hr h fuel⟩
theorem wp_region_WH {id : Nat} (hm : P.follows .mixedOrders = true) (h : WH P ops Q S ops.size (Array.replicate ops.size false) a w.drew) : (Code.region id ops true).wp P Q a w := wp_region_held hm h.out
end
theorem wanted_none {ops : Array Oper} {o : Oper} {tmps : Array Value} (h : o.guard = none) : Region.wanted o (yielded ops tmps) = true := by simp [Region.wanted, h]
theorem yielded_of {ops : Array Oper} {a : Act} {i t : Nat} {oi : Oper} {v : Bool} (hi : ops[i]? = some oi) (hd : oi.dst = some t) (he : a.eval (.tmp t) = .bool v) : yielded ops a.tmps i = some v := by
  unfold yielded
  rw [hi]
  simp only [Option.bind_some, hd]
  have he : a.tmps.getD t undef = .bool v := he
  rw [Array.getD_eq_getD_getElem?] at he
  cases hq : a.tmps[t]? with
  | none => rw [hq] at he; simp [undef] at he
  | some u => rw [hq] at he; simp at he; rw [he]
theorem wanted_yes {ops : Array Oper} {o oi : Oper} {a : Act} {i t : Nat} {v : Bool} (hg : o.guard = some (i, v)) (hi : ops[i]? = some oi) (hd : oi.dst = some t) (he : a.eval (.tmp t) = .bool v) : Region.wanted o (yielded ops a.tmps) = true := by
  simp [Region.wanted, hg, yielded_of hi hd he]
theorem wanted_no {ops : Array Oper} {o oi : Oper} {a : Act} {i t : Nat} {v : Bool} (hg : o.guard = some (i, v)) (hi : ops[i]? = some oi) (hd : oi.dst = some t) (he : a.eval (.tmp t) = .bool (!v)) : Region.wanted o (yielded ops a.tmps) = false := by
  simp [Region.wanted, hg, yielded_of hi hd he]
section
variable {P : Program} {o : Oper} {a : Act} {w : World}
theorem x_move {x : Operand} {v : Value} (ho : o.op = .move x) (hx : a.eval x = v) : (execOp a.eval o).run P w = .ok (.value v) w := by
  unfold execOp; simp only [ho, hx, Sem.run_pure]
theorem x_assign {x : Operand} {v : Value} (ho : o.op = .assign x) (hx : a.eval x = v) : (execOp a.eval o).run P w = .ok (.value v) w := by
  unfold execOp; simp only [ho, hx, Sem.run_pure]
theorem x_nil {x : Operand} {ad : Addr} (ho : o.op = .nilCheck x) (hx : a.eval x = .pointer (some ad)) : (execOp a.eval o).run P w = .ok (.value (.pointer (some ad))) w := by
  unfold execOp; simp only [ho, hx, Sem.run_pure]
theorem x_field {x : Operand} {t : TypeId} {k : Nat} {u v : Value} (ho : o.op = .fieldAddr t x k) (hx : a.eval x = u) (hr : (Instr.fieldAt t u k).run P w = .ok v w) : (execOp a.eval o).run P w = .ok (.value v) w := by
  unfold execOp; simp only [ho, hx, Sem.run_bind, hr, Sem.run_pure, Result.andThen_ok]
theorem x_len {x : Operand} {t : TypeId} {u v : Value} (ho : o.op = .call { callee := .builtin .len, args := #[x], argTypes := #[t] }) (hx : a.eval x = u) (hr : (Builtin.len_ #[t] o.type #[u]).run P w = .ok v w) : (execOp a.eval o).run P w = .ok (.value v) w := by
  unfold execOp
  simp only [ho, resolve, invoke, builtin, Sem.run_bind, Sem.run_pure, Result.andThen_ok, List.map_toArray, List.map_cons, List.map_nil, hx, hr]
theorem x_bin {b : BinOp} {x y : Operand} {t t' : TypeId} {k : IntKind} {m n : Int} {v : Value} (ho : o.op = .binOp b t x y t') (hx : a.eval x = .int k m) (hy : a.eval y = .int k n) (hr : (binOp b t (.int k m) (.int k n)).run P w = .ok v w) : (execOp a.eval o).run P w = .ok (.value v) w := by
  unfold execOp
  have hg : (eqGuard b t x y (.int k m) (.int k n)).run P w = .ok () w := by cases b <;> simp [eqGuard]
  simp only [ho, hx, hy, Sem.run_bind, hg, hr, Sem.run_pure, Result.andThen_ok]
theorem x_not {x : Operand} {t : TypeId} {v : Bool} (ho : o.op = .unOp .not t x) (hx : a.eval x = .bool v) : (execOp a.eval o).run P w = .ok (.value (.bool (!v))) w := by
  unfold execOp
  simp [ho, hx, Op.unary]
theorem x_pick {c x y : Operand} {v : Bool} {u : Value} (ho : o.op = .pick c x y) (hc : a.eval c = .bool v) (hu : (if v = true then a.eval x else a.eval y) = u) : (execOp a.eval o).run P w = .ok (.value u) w := by
  unfold execOp
  simp only [ho, hc, asBool, Sem.run_bind, Sem.run_pure, Result.andThen_ok, hu]
theorem x_call1 {f : FuncId} {x : Operand} {t : TypeId} {u : Value} (ho : o.op = .call { callee := .value (.func f), args := #[x], argTypes := #[t] }) (hx : a.eval x = u) (hf : (callFunc f #[u]).run P w = .ok (.enter f #[u]) w) : (execOp a.eval o).run P w = .ok (.enter f #[u]) w := by
  have hv : a.eval (.func f) = .func (.func f) #[] #[] := rfl
  unfold execOp
  simp [ho, resolve, Deferred.ofValue, invoke, hv, hx, hf]
theorem x_call2 {f : FuncId} {x y : Operand} {t t' : TypeId} {u v : Value} (ho : o.op = .call { callee := .value (.func f), args := #[x, y], argTypes := #[t, t'] }) (hx : a.eval x = u) (hy : a.eval y = v) (hf : (callFunc f #[u, v]).run P w = .ok (.enter f #[u, v]) w) : (execOp a.eval o).run P w = .ok (.enter f #[u, v]) w := by
  have hv : a.eval (.func f) = .func (.func f) #[] #[] := rfl
  unfold execOp
  simp [ho, resolve, Deferred.ofValue, invoke, hv, hx, hy, hf]
end
/-- W is w with new memory -/
def Bel (w W : World) : Prop := Below w.heap.size w W
theorem Bel.refl (w : World) : Bel w w := Below.refl _ _
theorem Bel.drew (w : World) : Bel w w.drew := below_drewN (Below.refl _ _) 1
theorem Bel.trans {a b c : World} (h : Bel a b) (k : Bel b c) : Bel a c := Below.trans h (Below.mono k (Below.size h))
theorem wpAnyH_weak {P : Program} {md : Region.Mode} {ops : Array Oper} {Q : Exit → Act → World → Prop} {S S' : World → Prop} (hS : ∀ W, S' W → S W) : ∀ (fuel : Nat) (listed : Array Bool) (a : Act) (w : World), wpAnyH P md ops Q S' fuel listed a w → wpAnyH P md ops Q S fuel listed a w
  | 0, _, _, _, h => h
  | fuel + 1, _, _, _, h => ⟨h.1, fun i hi => wpOp_mono (fun a' w' h' => ⟨hS _ h'.1, wpAnyH_weak hS fuel _ a' w' h'.2⟩) (h.2 i hi)⟩
/-- the orders: each step is one that may be taken first (true) or the only one that may come up (false) -/
def ordOk (ops : Array Oper) : List (Nat × Bool) → Array Bool → Bool
  | [], L => Region.ready .any ops L == []
  | (i, b) :: l, L => (if b then Region.free .any ops L i && (Region.ready .any ops L).contains i else Region.ready .any ops L == [i]) && ordOk ops l (L.setIfInBounds i true)
def regOk (ops : Array Oper) (l : List (Nat × Bool)) : Bool := Region.noSelect ops && (l.length == ops.size) && ordOk ops l (Array.replicate ops.size false)
structure WB (P : Program) (ops : Array Oper) (Q : Exit → Act → World → Prop) (l : List (Nat × Bool)) (a : Act) (w : World) : Prop where
  out : Region.noSelect ops = true → (∀ c a (d : Option Tmp) v w, Q (.panic c) (a.put d v) w → Q (.panic c) a w) → ∀ L, ordOk ops l L = true → wpAnyH P .any ops Q (Bel w) l.length L a w
section
variable {P : Program} {ops : Array Oper} {Q : Exit → Act → World → Prop} {l : List (Nat × Bool)} {a : Act} {w w' : World} {i : Nat} {o : Oper} {d : Option Tmp} {v : Value}
theorem b_take (hi : ops[i]? = some o) (hw : Region.wanted o (yielded ops a.tmps) = true) (hd : o.dst = d) (hx : ∀ W, Bel w W → (execOp a.eval o).run P W = .ok (.value v) W) (h : WB P ops Q l (a.put d v) w) : WB P ops Q ((i, true) :: l) a w := by
  subst hd
  refine ⟨fun hs hQ L hL => ?_⟩
  unfold ordOk at hL
  simp only [if_pos, Bool.and_eq_true] at hL
  exact wpAnyH_take hi hs hL.1.1 hL.1.2 (fun c a w => hQ c a _ _ w) (.inl ⟨hw, hx⟩) (Bel.refl w) (h.out hs hQ _ hL.2)
theorem b_skip (hi : ops[i]? = some o) (hw : Region.wanted o (yielded ops a.tmps) = false) (hd : o.dst = d) (h : WB P ops Q l (a.put d undef) w) : WB P ops Q ((i, true) :: l) a w := by
  subst hd
  refine ⟨fun hs hQ L hL => ?_⟩
  unfold ordOk at hL
  simp only [if_pos, Bool.and_eq_true] at hL
  exact wpAnyH_take hi hs hL.1.1 hL.1.2 (fun c a w => hQ c a _ _ w) (.inr ⟨hw, rfl⟩) (Bel.refl w) (h.out hs hQ _ hL.2)
theorem b_call {f : FuncId} {args : Array Value} (hi : ops[i]? = some o) (hw : Region.wanted o (yielded ops a.tmps) = true) (hd : o.dst = d) (hx : (execOp a.eval o).run P w = .ok (.enter f args) w)
    (h : Calls P f args w fun e w' => ∃ v, e = .returned v ∧ Bel w w' ∧ WB P ops Q l (a.put d v) w') : WB P ops Q ((i, false) :: l) a w := by
  subst hd
  refine ⟨fun hs hQ L hL => ?_⟩
  unfold ordOk at hL
  simp only [Bool.false_eq_true, if_false, Bool.and_eq_true, beq_iff_eq] at hL
  refine wpAnyH_ready hL.1 (by simp) (AllReadyH.cons hi (fun K hK => ?_) AllReadyH.nil)
  rw [if_pos hw]
  unfold Oper.wp
  rw [hx, Oper.upon_enter]
  refine h.mono ?_
  rintro e w' ⟨v, rfl, hS, h⟩
  exact hK.out _ _ hS (fun _ => wpAnyH_weak (fun W hW => Bel.trans hS hW) _ _ _ _ (h.out hs hQ _ hL.2))
theorem b_val (hi : ops[i]? = some o) (hw : Region.wanted o (yielded ops a.tmps) = true) (hd : o.dst = d) (hx : (execOp a.eval o).run P w = .ok (.value v) w') (hS : Bel w w') (h : WB P ops Q l (a.put d v) w') : WB P ops Q ((i, false) :: l) a w := by
  subst hd
  refine ⟨fun hs hQ L hL => ?_⟩
  unfold ordOk at hL
  simp only [Bool.false_eq_true, if_false, Bool.and_eq_true, beq_iff_eq] at hL
  refine wpAnyH_ready hL.1 (by simp) (AllReadyH.cons hi (fun K hK => ?_) AllReadyH.nil)
  rw [if_pos hw]
  unfold Oper.wp
  rw [hx, Oper.upon_value]
  exact hK.out _ _ hS (fun _ => wpAnyH_weak (fun W hW => Bel.trans hS hW) _ _ _ _ (h.out hs hQ _ hL.2))
theorem b_done (h : Q .normal a w) : WB P ops Q [] a w := ⟨fun hs hQ L hL => by
  unfold ordOk at hL
  exact wpAnyH_done (beq_iff_eq.1 hL) h _⟩
theorem wp_region_WB {id : Nat} (hm : P.follows .mixedOrders = true) (hok : regOk ops l = true) (hQ : ∀ c a (d : Nat) v w, Q (.panic c) (a.put (some d) v) w → Q (.panic c) a w) (h : WB P ops Q l a w.drew) : (Code.region id ops true).wp P Q a w := by
  unfold regOk at hok
  simp only [Bool.and_eq_true, beq_iff_eq] at hok
  have := h.out hok.1.1 (fun c a d v w h => by
    cases d with
    | none => exact h
    | some d => exact hQ c a d v w h) _ hok.2
  rw [hok.1.2] at this
  exact wp_region_held hm this
end
theorem pS {a : Act} {t : Nat} {v : Value} {n : Nat} (hn : n ≤ a.tmps.size) (ht : t < n) : (a.put (some t) v).eval (.tmp t) = v := put_same a t v (Nat.lt_of_lt_of_le ht hn)
theorem pO {a : Act} {t s : Nat} {u v : Value} (h : s ≠ t) (e : a.eval (.tmp s) = v) : (a.put (some t) u).eval (.tmp s) = v := (put_other a t s u h).trans e
theorem pN {a : Act} {s : Nat} {u v : Value} (e : a.eval (.tmp s) = v) : (a.put none u).eval (.tmp s) = v := e
theorem pZ {a : Act} {n t : Nat} {v : Value} (h : n ≤ a.tmps.size) : n ≤ (a.put (some t) v).tmps.size := by rw [put_size]; exact h
section
variable {P : Program} {o : Oper} {a : Act} {w : World}
theorem x_pickT {c x y : Operand} {u : Value} (ho : o.op = .pick c x y) (hc : a.eval c = .bool true) (hu : a.eval x = u) : (execOp a.eval o).run P w = .ok (.value u) w := x_pick ho hc (by rw [if_pos rfl]; exact hu)
theorem x_pickF {c x y : Operand} {u : Value} (ho : o.op = .pick c x y) (hc : a.eval c = .bool false) (hu : a.eval y = u) : (execOp a.eval o).run P w = .ok (.value u) w := x_pick ho hc (by rw [if_neg (by simp)]; exact hu)
theorem x_call0 {f : FuncId} (ho : o.op = .call { callee := .value (.func f), args := #[], argTypes := #[] }) (hf : (callFunc f #[]).run P w = .ok (.enter f #[]) w) : (execOp a.eval o).run P w = .ok (.enter f #[]) w := by
  have hv : a.eval (.func f) = .func (.func f) #[] #[] := rfl
  unfold execOp
  simp [ho, resolve, Deferred.ofValue, invoke, hv, hf]
theorem x_call3 {f : FuncId} {x y z : Operand} {t t' t'' : TypeId} {u v r : Value} (ho : o.op = .call { callee := .value (.func f), args := #[x, y, z], argTypes := #[t, t', t''] }) (hx : a.eval x = u) (hy : a.eval y = v) (hz : a.eval z = r) (hf : (callFunc f #[u, v, r]).run P w = .ok (.enter f #[u, v, r]) w) : (execOp a.eval o).run P w = .ok (.enter f #[u, v, r]) w := by
  have hv : a.eval (.func f) = .func (.func f) #[] #[] := rfl
  unfold execOp
  simp [ho, resolve, Deferred.ofValue, invoke, hv, hx, hy, hz, hf]
end
theorem eql_int (w : World) (m : Int) : (binOp .eql 3 (.int .i64 m) (.int .i64 m)).run Try.prog w = .ok (.bool true) w := by
  simp [binOp, go_sem, und3]
theorem eql_intB (w : World) (m n : Int) : (binOp .eql 3 (.int .i64 m) (.int .i64 n)).run Try.prog w = .ok (.bool (m == n)) w := by
  simp [binOp, go_sem, und3]
/-- a walk over whatever order that no tactic looks into -/
structure WA (P : Program) (ops : Array Oper) (Q : Exit → Act → World → Prop) (fuel : Nat) (listed : Array Bool) (a : Act) (w : World) : Prop where
  out : wpAny P .any ops Q fuel listed a w
section
variable {P : Program} {ops : Array Oper} {Q : Exit → Act → World → Prop} {fuel : Nat} {listed : Array Bool} {a : Act} {w w' : World} {i j : Nat} {o o' : Oper} {d d' : Option Tmp} {v v' : Value}
theorem a_one (hr : Region.ready .any ops listed = [i]) (hi : ops[i]? = some o) (hw : Region.wanted o (yielded ops a.tmps) = true) (hd : o.dst = d) (hx : (execOp a.eval o).run P w = .ok (.value v) w') (h : WA P ops Q fuel (listed.setIfInBounds i true) (a.put d v) w') : WA P ops Q (fuel + 1) listed a w :=
  ⟨wpAny_ready hr (by simp) (AllReady.cons hi (fun K hK => s_val hw hd hx (hK _ _ h.out)) AllReady.nil)⟩
theorem a_unit (hr : Region.ready .any ops listed = [i]) (hi : ops[i]? = some o) (hw : Region.wanted o (yielded ops a.tmps) = true) (hd : o.dst = none) (hx : (execOp a.eval o).run P w = .ok .skip w') (h : WA P ops Q fuel (listed.setIfInBounds i true) a w') : WA P ops Q (fuel + 1) listed a w := by
  refine ⟨wpAny_ready hr (by simp) (AllReady.cons hi (fun K hK => ?_) AllReady.nil)⟩
  rw [if_pos hw]
  unfold Oper.wp
  rw [hx, Oper.upon_skip, hd]
  exact hK _ _ h.out
end
/-- j waits for i -/
def reqs (ops : Array Oper) : Nat → Nat → Nat → Bool
  | 0, _, _ => false
  | n + 1, i, j => match ops[j]? with
    | none => false
    | some o => o.after.any fun e => Region.binds .any e && (e.on == i || reqs ops n i e.on)
def Closed (ops : Array Oper) (L : Array Bool) : Prop := ∀ j o, ops[j]? = some o → L.getD j false = true → ∀ e ∈ o.after, Region.binds .any e = true → L.getD e.on false = true
theorem getD_set_of {L : Array Bool} {j k : Nat} (h : L.getD k false = true) : (L.setIfInBounds j true).getD k false = true := by
  simp only [Array.getD_eq_getD_getElem?, Array.getElem?_setIfInBounds] at *
  split
  · split <;> simp_all
  · exact h
theorem getD_set_far {L : Array Bool} {j k : Nat} (h : j ≠ k) : (L.setIfInBounds j true).getD k false = L.getD k false := by
  simp only [Array.getD_eq_getD_getElem?]
  rw [Array.getElem?_setIfInBounds_ne h]
theorem ready_off {ops : Array Oper} {L : Array Bool} {i : Nat} (h : i ∈ Region.ready .any ops L) : L.getD i false = false := by
  unfold Region.ready at h
  rw [List.mem_filter] at h
  have h2 := h.2
  simp only [Bool.and_eq_true, Bool.not_eq_true'] at h2
  have h3 := h2.1
  simp only [Array.getD_eq_getD_getElem?] at *
  cases hq : L[i]? with
  | none => rw [hq] at h3; simp at h3
  | some b => rw [hq] at h3; simpa using h3
theorem ready_edges {ops : Array Oper} {L : Array Bool} {i : Nat} {o : Oper} (h : i ∈ Region.ready .any ops L) (ho : ops[i]? = some o) : ∀ e ∈ o.after, Region.binds .any e = true → L.getD e.on false = true := by
  unfold Region.ready at h
  rw [List.mem_filter] at h
  have h2 := h.2
  simp only [Bool.and_eq_true, ho, Option.map_some, Option.getD_some] at h2
  have h3 := Array.all_eq_true_iff_forall_mem.1 h2.2
  intro e he hb
  have := h3 e he
  simpa [hb] using this
theorem closed_set {ops : Array Oper} {L : Array Bool} {i : Nat} (hc : Closed ops L) (h : i ∈ Region.ready .any ops L) : Closed ops (L.setIfInBounds i true) := by
  intro j o ho hj e he hb
  by_cases hij : i = j
  · subst hij
    exact getD_set_of (ready_edges h ho e he hb)
  · rw [getD_set_far hij] at hj
    exact getD_set_of (hc j o ho hj e he hb)
theorem closed_reqs {ops : Array Oper} {L : Array Bool} {i : Nat} (hc : Closed ops L) : ∀ n j, reqs ops n i j = true → L.getD j false = true → L.getD i false = true := by
  intro n
  induction n with
  | zero => intro j h; simp [reqs] at h
  | succ n ih =>
    intro j h hj
    unfold reqs at h
    cases ho : ops[j]? with
    | none => rw [ho] at h; simp at h
    | some o =>
      rw [ho] at h
      simp only [Array.any_eq_true'] at h
      obtain ⟨e, he, h⟩ := h
      simp only [Bool.and_eq_true, Bool.or_eq_true, beq_iff_eq] at h
      have h1 := hc j o ho hj e he h.1
      rcases h.2 with h2 | h2
      · rw [← h2]; exact h1
      · exact ih _ h2 h1
theorem rep_off (n k : Nat) : (Array.replicate n false).getD k false = false := by
  rw [Array.getD_eq_getD_getElem?, Array.getElem?_replicate]
  split <;> rfl
theorem closed_start (ops : Array Oper) (n : Nat) : Closed ops (Array.replicate n false) := by
  intro j o _ hj
  rw [rep_off] at hj
  cases hj
def wpAnyL (P : Program) (ops : Array Oper) (Q : Exit → Act → World → Prop) (S : World → Prop) (Lt : Nat) : Nat → Array Bool → Act → World → Prop
  | 0, listed, a, w => Region.ready .any ops listed = [] ∧ Q .normal a w
  | fuel + 1, listed, a, w => (Region.ready .any ops listed = [] → Q .normal a w) ∧
    ∀ i ∈ Region.ready .any ops listed, wpOp P ops Q i (fun a' w' => ((listed.setIfInBounds i true).getD Lt false = false → S w') ∧ wpAnyL P ops Q S Lt fuel (listed.setIfInBounds i true) a' w') a w
section
variable {P : Program} {ops : Array Oper} {Q : Exit → Act → World → Prop} {S S' : World → Prop} {Lt : Nat}
theorem wpAny_of_L : ∀ (fuel : Nat) (listed : Array Bool) (a : Act) (w : World), wpAnyL P ops Q S Lt fuel listed a w → wpAny P .any ops Q fuel listed a w
  | 0, _, _, _, h => h
  | fuel + 1, _, _, _, h => ⟨h.1, fun i hi => wpOp_mono (fun a' w' h' => wpAny_of_L fuel _ a' w' h'.2) (h.2 i hi)⟩
theorem wpAnyL_weak (hS : ∀ W, S' W → S W) : ∀ (fuel : Nat) (listed : Array Bool) (a : Act) (w : World), wpAnyL P ops Q S' Lt fuel listed a w → wpAnyL P ops Q S Lt fuel listed a w
  | 0, _, _, _, h => h
  | fuel + 1, _, _, _, h => ⟨h.1, fun i hi => wpOp_mono (fun a' w' h' => ⟨fun e => hS _ (h'.1 e), wpAnyL_weak hS fuel _ a' w' h'.2⟩) (h.2 i hi)⟩
theorem wpAnyL_of_any : ∀ (fuel : Nat) (listed : Array Bool) (a : Act) (w : World), listed.getD Lt false = true → wpAny P .any ops Q fuel listed a w → wpAnyL P ops Q S Lt fuel listed a w
  | 0, _, _, _, _, h => h
  | fuel + 1, _, _, _, hl, h => ⟨h.1, fun i hi => wpOp_mono (fun a' w' h' => ⟨fun e => (by rw [getD_set_of hl] at e; cases e), wpAnyL_of_any fuel _ a' w' (getD_set_of hl) h'⟩) (h.2 i hi)⟩
theorem wpAnyL_first {i nn : Nat} {oi : Oper} {v : Value} (hi : ops[i]? = some oi) (hsel : ∀ (j : Nat) (o : Oper) cs b, ops[j]? = some o → o.op ≠ .select cs b)
    (hQ : ∀ c a w, Q (.panic c) (a.put oi.dst v) w → Q (.panic c) a w) (hne : i ≠ Lt) (hreq : reqs ops nn i Lt = true) :
    ∀ (fuel : Nat) (listed : Array Bool) (a : Act) (w : World), Closed ops listed →
      (∀ j oj, ops[j]? = some oj → j ≠ i → listed.getD j true = false → (∀ e ∈ oj.after, Region.binds .any e = true → e.on ≠ i) → oi.apart ops oj = true) →
      i ∈ Region.ready .any ops listed → YieldsIf P ops S oi v a → S w →
      wpAnyL P ops Q S Lt fuel (listed.setIfInBounds i true) (a.put oi.dst v) w → wpAnyL P ops Q S Lt (fuel + 1) listed a w := by
  intro fuel
  induction fuel with
  | zero =>
    intro listed a w _ _ hr hy hS H
    refine ⟨fun h => (by rw [h] at hr; cases hr), fun j hj => ?_⟩
    by_cases hji : j = i
    · subst hji; exact hy.wpOp hi hS ⟨fun _ => hS, H⟩
    · have := ready_mono hj hji
      rw [H.1] at this
      cases this
  | succ fuel ih =>
    intro listed a w hcl hfree hr hy hS H
    refine ⟨fun h => (by rw [h] at hr; cases hr), fun j hj => ?_⟩
    by_cases hji : j = i
    · subst hji; exact hy.wpOp hi hS ⟨fun _ => hS, H⟩
    · have h1 := H.2 j (ready_mono hj hji)
      obtain ⟨hjun, oj, hoj, hall⟩ := mem_ready.1 hj
      have hnot : ∀ e ∈ oj.after, Region.binds .any e = true → e.on ≠ i := fun e he hb heq => by
        have h1 := ready_edges hj hoj e he hb
        have h0 := ready_off hr
        rw [heq, h0] at h1
        cases h1
      have h2 := wpOp_putIf hoj (hfree j oj hoj hji hjun hnot) (fun cs b => hsel i oi cs b hi) (fun cs b => hsel j oj cs b hoj) hQ hy h1
      have hfree' : ∀ k ok, ops[k]? = some ok → k ≠ i → (listed.setIfInBounds j true).getD k true = false →
          (∀ e ∈ ok.after, Region.binds .any e = true → e.on ≠ i) → oi.apart ops ok = true := fun k ok hk hki hun hno => by
        refine hfree k ok hk hki ?_ hno
        by_cases hjk : j = k
        · subst hjk; exact hjun
        · rw [getD_set_ne true hjk] at hun; exact hun
      have hcl' := closed_set hcl hj
      have hoff : (listed.setIfInBounds j true).getD i false = false := by rw [getD_set_far hji]; exact ready_off hr
      have hlt : (listed.setIfInBounds j true).getD Lt false = false := by
        cases hq : (listed.setIfInBounds j true).getD Lt false with
        | false => rfl
        | true => rw [closed_reqs hcl' nn Lt hreq hq] at hoff; cases hoff
      have hlt2 : ((listed.setIfInBounds i true).setIfInBounds j true).getD Lt false = false := by
        rw [Array.setIfInBounds_comm _ _ (Ne.symm hji), getD_set_far hne]; exact hlt
      refine wpOp_mono (fun a' w' h3 => ⟨fun _ => h3.2.1 hlt2, ih (listed.setIfInBounds j true) a' w' hcl' hfree' (ready_mono hr (Ne.symm hji)) h3.1 (h3.2.1 hlt2) ?_⟩) h2
      rw [Array.setIfInBounds_comm _ _ hji]
      exact h3.2.2
end
/-- a step that reads no memory may be taken first wherever it stands -/
theorem wpAnyL_free {P : Program} {ops : Array Oper} {Q : Exit → Act → World → Prop} {S : World → Prop} {Lt i : Nat} {oi : Oper} {v : Value} (hi : ops[i]? = some oi) (hsel : ∀ (j : Nat) (o : Oper) cs b, ops[j]? = some o → o.op ≠ .select cs b)
    (hQ : ∀ c a w, Q (.panic c) (a.put oi.dst v) w → Q (.panic c) a w) (hne : i ≠ Lt) :
    ∀ (fuel : Nat) (listed : Array Bool) (a : Act) (w : World),
      (∀ j oj, ops[j]? = some oj → j ≠ i → listed.getD j true = false → (∀ e ∈ oj.after, Region.binds .any e = true → e.on ≠ i) → oi.apart ops oj = true) →
      i ∈ Region.ready .any ops listed → YieldsIf P ops (fun _ => True) oi v a → (listed.getD Lt false = false → S w) →
      wpAnyL P ops Q S Lt fuel (listed.setIfInBounds i true) (a.put oi.dst v) w → wpAnyL P ops Q S Lt (fuel + 1) listed a w := by
  intro fuel
  induction fuel with
  | zero =>
    intro listed a w _ hr hy hS H
    refine ⟨fun h => (by rw [h] at hr; cases hr), fun j hj => ?_⟩
    by_cases hji : j = i
    · subst hji; exact hy.wpOp hi trivial ⟨fun e => hS (by rwa [getD_set_far hne] at e), H⟩
    · have := ready_mono hj hji
      rw [H.1] at this
      cases this
  | succ fuel ih =>
    intro listed a w hfree hr hy hS H
    refine ⟨fun h => (by rw [h] at hr; cases hr), fun j hj => ?_⟩
    by_cases hji : j = i
    · subst hji; exact hy.wpOp hi trivial ⟨fun e => hS (by rwa [getD_set_far hne] at e), H⟩
    · have h1 := H.2 j (ready_mono hj hji)
      obtain ⟨hjun, oj, hoj, hall⟩ := mem_ready.1 hj
      have hnot : ∀ e ∈ oj.after, Region.binds .any e = true → e.on ≠ i := fun e he hb heq => by
        have h1 := ready_edges hj hoj e he hb
        have h0 := ready_off hr
        rw [heq, h0] at h1
        cases h1
      have h2 := wpOp_putIf hoj (hfree j oj hoj hji hjun hnot) (fun cs b => hsel i oi cs b hi) (fun cs b => hsel j oj cs b hoj) hQ hy h1
      have hfree' : ∀ k ok, ops[k]? = some ok → k ≠ i → (listed.setIfInBounds j true).getD k true = false →
          (∀ e ∈ ok.after, Region.binds .any e = true → e.on ≠ i) → oi.apart ops ok = true := fun k ok hk hki hun hno => by
        refine hfree k ok hk hki ?_ hno
        by_cases hjk : j = k
        · subst hjk; exact hjun
        · rw [getD_set_ne true hjk] at hun; exact hun
      have hc : ∀ w', (((listed.setIfInBounds i true).setIfInBounds j true).getD Lt false = false → S w') → ((listed.setIfInBounds j true).getD Lt false = false → S w') := fun w' h e => h (by rw [Array.setIfInBounds_comm _ _ (Ne.symm hji), getD_set_far hne]; exact e)
      refine wpOp_mono (fun a' w' h3 => ⟨hc w' h3.2.1, ih (listed.setIfInBounds j true) a' w' hfree' (ready_mono hr (Ne.symm hji)) h3.1 (hc w' h3.2.1) ?_⟩) h2
      rw [Array.setIfInBounds_comm _ _ hji]
      exact h3.2.2
/-- the orders: 0 a step that may be taken first and for which the late step waits, 2 one that reads no memory; 1 the only one that may come up -/
def ordG (ops : Array Oper) (Lt : Nat) : List (Nat × Nat) → Array Bool → Bool
  | [], L => Region.ready .any ops L == []
  | (i, b) :: l, L => (if b == 1 then Region.ready .any ops L == [i] else Region.free .any ops L i && (Region.ready .any ops L).contains i && (b == 2 || reqs ops ops.size i Lt) && i != Lt) && ordG ops Lt l (L.setIfInBounds i true)
def regG (ops : Array Oper) (Lt : Nat) (l : List (Nat × Nat)) : Bool := Region.noSelect ops && (l.length == ops.size) && ordG ops Lt l (Array.replicate ops.size false)
structure WG (P : Program) (ops : Array Oper) (Q : Exit → Act → World → Prop) (Lt : Nat) (w0 : World) (l : List (Nat × Nat)) (a : Act) (w : World) : Prop where
  out : Region.noSelect ops = true → (∀ c a (d : Option Tmp) v w, Q (.panic c) (a.put d v) w → Q (.panic c) a w) → Bel w0 w → ∀ L, Closed ops L → L.getD Lt false = false → ordG ops Lt l L = true → wpAnyL P ops Q (Bel w0) Lt l.length L a w
/-- behind the late step -/
structure WF (P : Program) (ops : Array Oper) (Q : Exit → Act → World → Prop) (Lt : Nat) (l : List (Nat × Nat)) (a : Act) (w : World) : Prop where
  out : ∀ L, ordG ops Lt l L = true → wpAny P .any ops Q l.length L a w
section
variable {P : Program} {ops : Array Oper} {Q : Exit → Act → World → Prop} {Lt : Nat} {l : List (Nat × Nat)} {a : Act} {w0 w w' : World} {i : Nat} {o : Oper} {d : Option Tmp} {v : Value}
theorem g_take (hi : ops[i]? = some o) (hw : Region.wanted o (yielded ops a.tmps) = true) (hd : o.dst = d) (hx : ∀ W, Bel w0 W → (execOp a.eval o).run P W = .ok (.value v) W) (h : WG P ops Q Lt w0 l (a.put d v) w) : WG P ops Q Lt w0 ((i, 0) :: l) a w := by
  subst hd
  refine ⟨fun hs hQ hB L hc hl hL => ?_⟩
  unfold ordG at hL
  rw [if_neg (by decide)] at hL
  simp only [Bool.and_eq_true, bne_iff_ne, show ((0 : Nat) == 2) = false from rfl, Bool.false_or] at hL
  obtain ⟨⟨⟨⟨k1, k2⟩, k3⟩, k4⟩, k5⟩ := hL
  exact wpAnyL_first hi (Region.noSelect_spec hs) (fun c a w => hQ c a _ _ w) k4 k3 _ L a w hc (Region.free_spec hi k1) (by simpa using k2) (.inl ⟨hw, hx⟩) hB
    (h.out hs hQ hB _ (closed_set hc (by simpa using k2)) (by rw [getD_set_far k4]; exact hl) k5)
theorem g_free (hi : ops[i]? = some o) (hw : Region.wanted o (yielded ops a.tmps) = true) (hd : o.dst = d) (hx : ∀ W, (execOp a.eval o).run P W = .ok (.value v) W) (h : WG P ops Q Lt w0 l (a.put d v) w) : WG P ops Q Lt w0 ((i, 2) :: l) a w := by
  subst hd
  refine ⟨fun hs hQ hB L hc hl hL => ?_⟩
  unfold ordG at hL
  rw [if_neg (by decide)] at hL
  simp only [Bool.and_eq_true, bne_iff_ne] at hL
  obtain ⟨⟨⟨⟨k1, k2⟩, _⟩, k4⟩, k5⟩ := hL
  exact wpAnyL_free hi (Region.noSelect_spec hs) (fun c a w => hQ c a _ _ w) k4 _ L a w (Region.free_spec hi k1) (by simpa using k2) (.inl ⟨hw, fun W _ => hx W⟩) (fun _ => hB)
    (h.out hs hQ hB _ (closed_set hc (by simpa using k2)) (by rw [getD_set_far k4]; exact hl) k5)
theorem mem_one {L : Array Bool} (h : Region.ready .any ops L = [i]) : i ∈ Region.ready .any ops L := by rw [h]; simp
theorem g_val (hi : ops[i]? = some o) (hne : (i == Lt) = false) (hw : Region.wanted o (yielded ops a.tmps) = true) (hd : o.dst = d) (hx : (execOp a.eval o).run P w = .ok (.value v) w') (hS : Bel w0 w') (h : WG P ops Q Lt w0 l (a.put d v) w') : WG P ops Q Lt w0 ((i, 1) :: l) a w := by
  subst hd
  refine ⟨fun hs hQ hB L hc hl hL => ?_⟩
  unfold ordG at hL
  rw [if_pos (by decide)] at hL
  simp only [Bool.and_eq_true, beq_iff_eq] at hL
  have hne' : i ≠ Lt := by simpa using hne
  have hl' : (L.setIfInBounds i true).getD Lt false = false := by rw [getD_set_far hne']; exact hl
  refine ⟨fun h0 => (by rw [hL.1] at h0; cases h0), fun j hj => ?_⟩
  rw [hL.1] at hj
  obtain rfl : j = i := by simpa using hj
  refine wpOp_step hi (fun K' hK => ?_)
  rw [if_pos hw]
  unfold Oper.wp
  rw [hx, Oper.upon_value]
  exact hK _ _ ⟨fun _ => hS, h.out hs hQ hS _ (closed_set hc (mem_one hL.1)) hl' hL.2⟩
theorem g_late (hi : ops[Lt]? = some o) (hw : Region.wanted o (yielded ops a.tmps) = true) (hd : o.dst = d) (hx : (execOp a.eval o).run P w = .ok (.value v) w') (hlt : Lt < ops.size) (h : WF P ops Q Lt l (a.put d v) w') : WG P ops Q Lt w0 ((Lt, 1) :: l) a w := by
  subst hd
  refine ⟨fun hs hQ hB L hc hl hL => ?_⟩
  unfold ordG at hL
  rw [if_pos (by decide)] at hL
  simp only [Bool.and_eq_true, beq_iff_eq] at hL
  have hin : (L.setIfInBounds Lt true).getD Lt false = true := by
    have h1 := mem_one hL.1
    unfold Region.ready at h1
    rw [List.mem_filter] at h1
    have h2 := h1.2
    simp only [Bool.and_eq_true, Bool.not_eq_true'] at h2
    have h3 := h2.1
    simp only [Array.getD_eq_getD_getElem?] at *
    cases hq : L[Lt]? with
    | none => rw [hq] at h3; simp at h3
    | some b =>
      have h4 := (Array.getElem?_eq_some_iff.1 hq).1
      simp [h4]
  refine ⟨fun h0 => (by rw [hL.1] at h0; cases h0), fun j hj => ?_⟩
  rw [hL.1] at hj
  obtain rfl : j = Lt := by simpa using hj
  refine wpOp_step hi (fun K' hK => ?_)
  rw [if_pos hw]
  unfold Oper.wp
  rw [hx, Oper.upon_value]
  exact hK _ _ ⟨fun e => (by rw [hin] at e; cases e), wpAnyL_of_any _ _ _ _ hin (h.out _ hL.2)⟩
theorem f_one (hi : ops[i]? = some o) (hw : Region.wanted o (yielded ops a.tmps) = true) (hd : o.dst = d) (hx : (execOp a.eval o).run P w = .ok (.value v) w') (h : WF P ops Q Lt l (a.put d v) w') : WF P ops Q Lt ((i, 1) :: l) a w := by
  refine ⟨fun L hL => ?_⟩
  unfold ordG at hL
  rw [if_pos (by decide)] at hL
  simp only [Bool.and_eq_true, beq_iff_eq] at hL
  exact (a_one hL.1 hi hw hd hx ⟨h.out _ hL.2⟩).out
theorem f_unit (hi : ops[i]? = some o) (hw : Region.wanted o (yielded ops a.tmps) = true) (hd : o.dst = none) (hx : (execOp a.eval o).run P w = .ok .skip w') (h : WF P ops Q Lt l a w') : WF P ops Q Lt ((i, 1) :: l) a w := by
  refine ⟨fun L hL => ?_⟩
  unfold ordG at hL
  rw [if_pos (by decide)] at hL
  simp only [Bool.and_eq_true, beq_iff_eq] at hL
  exact (a_unit hL.1 hi hw hd hx ⟨h.out _ hL.2⟩).out
theorem f_done (h : Q .normal a w) : WF P ops Q Lt [] a w := ⟨fun L hL => by
  unfold ordG at hL
  exact wpAny_done (beq_iff_eq.1 hL) h _⟩
theorem wp_region_WG {id : Nat} (hm : P.follows .mixedOrders = true) (hok : regG ops Lt l = true) (hQ : ∀ c a (d : Nat) v w, Q (.panic c) (a.put (some d) v) w → Q (.panic c) a w) (h : WG P ops Q Lt w.drew l a w.drew) : (Code.region id ops true).wp P Q a w := by
  unfold regG at hok
  simp only [Bool.and_eq_true, beq_iff_eq] at hok
  have := h.out hok.1.1 (fun c a d v w h => by
    cases d with
    | none => exact h
    | some d => exact hQ c a d v w h) (Bel.refl _) _ (closed_start ops ops.size) (rep_off _ _) hok.2
  rw [hok.1.2] at this
  exact wp_region_any hm (wpAny_of_L _ _ _ _ this)
end
end Go.Proofs.Ytagkdkkpgcolkaa
