/-
  Regions that draw their order and hold calls that make memory, over a frame that is a letter: whatever is known of the memory at hand is known of it behind each step. No conditions.
-/
import Derived.Test.YtabnlnhnefjebaaStQ
import Derived.Test.YtabnlnhnefjebaaSt6a
namespace Go.Proofs.Ytabnlnhnefjebaa
open Go.RowKit
set_option linter.unusedVariables false
set_option linter.unusedSimpArgs false
/-- W is w with new memory -/
def Bel (w W : World) : Prop := Below w.heap.size w W
theorem Bel.refl (w : World) : Bel w w := Below.refl _ _
theorem Bel.drew (w : World) : Bel w w.drew := below_drewN (Below.refl _ _) 1
theorem Bel.trans {a b c : World} (h : Bel a b) (k : Bel b c) : Bel a c := Below.trans h (Below.mono k (Below.size h))
theorem wpAnyH_weak {P : Program} {md : Region.Mode} {ops : Array Oper} {Q : Exit → Act → World → Prop} {S S' : World → Prop} (hS : ∀ W, S' W → S W) : ∀ (fuel : Nat) (listed : Array Bool) (a : Act) (w : World), wpAnyH P md ops Q S' fuel listed a w → wpAnyH P md ops Q S fuel listed a w
  | 0, _, _, _, h => h
  | fuel + 1, _, _, _, h => ⟨h.1, fun i hi => wpOp_mono (fun a' w' h' => ⟨hS _ h'.1, wpAnyH_weak hS fuel _ a' w' h'.2⟩) (h.2 i hi)⟩
/-- the orders: each step is one that may be taken first (true) or the only one that may come up (false) -/
def ordOk (ops : Array Oper) : List (Nat × Bool) → Array Bool → Bool
  | [], L => Region.ready .any ops L == []
  | (i, b) :: l, L => (if b then Region.free .any ops L i && (Region.ready .any ops L).contains i else Region.ready .any ops L == [i]) && ordOk ops l (L.setIfInBounds i true)
def regOk (ops : Array Oper) (l : List (Nat × Bool)) : Bool := Region.noSelect ops && (l.length == ops.size) && ordOk ops l (Array.replicate ops.size false)
structure WB (P : Program) (ops : Array Oper) (Q : Exit → Act → World → Prop) (l : List (Nat × Bool)) (a : Act) (w : World) : Prop where
  out : Region.noSelect ops = true → (∀ c a (d : Option Tmp) v w, Q (.panic c) (a.put d v) w → Q (.panic c) a w) → ∀ L, ordOk ops l L = true → wpAnyH P .any ops Q (Bel w) l.length L a w
section
variable {P : Program} {ops : Array Oper} {Q : Exit → Act → World → Prop} {l : List (Nat × Bool)} {a : Act} {w w' : World} {i : Nat} {o : Oper} {d : Option Tmp} {v : Value}
theorem b_take (hi : ops[i]? = some o) (hw : Region.wanted o (yielded ops a.tmps) = true) (hd : o.dst = d) (hx : ∀ W, Bel w W → (execOp a.eval o).run P W = .ok (.value v) W) (h : WB P ops Q l (a.put d v) w) : WB P ops Q ((i, true) :: l) a w := by
  subst hd
  refine ⟨fun hs hQ L hL => ?_⟩
  unfold ordOk at hL
  simp only [if_pos, Bool.and_eq_true] at hL
  exact wpAnyH_take hi hs hL.1.1 hL.1.2 (fun c a w => hQ c a _ _ w) (.inl ⟨hw, hx⟩) (Bel.refl w) (h.out hs hQ _ hL.2)
theorem b_skip (hi : ops[i]? = some o) (hw : Region.wanted o (yielded ops a.tmps) = false) (hd : o.dst = d) (h : WB P ops Q l (a.put d undef) w) : WB P ops Q ((i, true) :: l) a w := by
  subst hd
  refine ⟨fun hs hQ L hL => ?_⟩
  unfold ordOk at hL
  simp only [if_pos, Bool.and_eq_true] at hL
  exact wpAnyH_take hi hs hL.1.1 hL.1.2 (fun c a w => hQ c a _ _ w) (.inr ⟨hw, rfl⟩) (Bel.refl w) (h.out hs hQ _ hL.2)
theorem b_call {f : FuncId} {args : Array Value} (hi : ops[i]? = some o) (hw : Region.wanted o (yielded ops a.tmps) = true) (hd : o.dst = d) (hx : (execOp a.eval o).run P w = .ok (.enter f args) w)
    (h : Calls P f args w fun e w' => ∃ v, e = .returned v ∧ Bel w w' ∧ WB P ops Q l (a.put d v) w') : WB P ops Q ((i, false) :: l) a w := by
  subst hd
  refine ⟨fun hs hQ L hL => ?_⟩
  unfold ordOk at hL
  simp only [Bool.false_eq_true, if_false, Bool.and_eq_true, beq_iff_eq] at hL
  refine wpAnyH_ready hL.1 (by simp) (AllReadyH.cons hi (fun K hK => ?_) AllReadyH.nil)
  rw [if_pos hw]
  unfold Oper.wp
  rw [hx, Oper.upon_enter]
  refine h.mono ?_
  rintro e w' ⟨v, rfl, hS, h⟩
  exact hK.out _ _ hS (fun _ => wpAnyH_weak (fun W hW => Bel.trans hS hW) _ _ _ _ (h.out hs hQ _ hL.2))
theorem b_val (hi : ops[i]? = some o) (hw : Region.wanted o (yielded ops a.tmps) = true) (hd : o.dst = d) (hx : (execOp a.eval o).run P w = .ok (.value v) w') (hS : Bel w w') (h : WB P ops Q l (a.put d v) w') : WB P ops Q ((i, false) :: l) a w := by
  subst hd
  refine ⟨fun hs hQ L hL => ?_⟩
  unfold ordOk at hL
  simp only [Bool.false_eq_true, if_false, Bool.and_eq_true, beq_iff_eq] at hL
  refine wpAnyH_ready hL.1 (by simp) (AllReadyH.cons hi (fun K hK => ?_) AllReadyH.nil)
  rw [if_pos hw]
  unfold Oper.wp
  rw [hx, Oper.upon_value]
  exact hK.out _ _ hS (fun _ => wpAnyH_weak (fun W hW => Bel.trans hS hW) _ _ _ _ (h.out hs hQ _ hL.2))
theorem b_done (h : Q .normal a w) : WB P ops Q [] a w := ⟨fun hs hQ L hL => by
  unfold ordOk at hL
  exact wpAnyH_done (beq_iff_eq.1 hL) h _⟩
theorem wp_region_WB {id : Nat} (hm : P.follows .mixedOrders = true) (hok : regOk ops l = true) (hQ : ∀ c a (d : Nat) v w, Q (.panic c) (a.put (some d) v) w → Q (.panic c) a w) (h : WB P ops Q l a w.drew) : (Code.region id ops true).wp P Q a w := by
  unfold regOk at hok
  simp only [Bool.and_eq_true, beq_iff_eq] at hok
  have := h.out hok.1.1 (fun c a d v w h => by
    cases d with
    | none => exact h
    | some d => exact hQ c a d v w h) _ hok.2
  rw [hok.1.2] at this
  exact wp_region_held hm this
end
theorem pS {a : Act} {t : Nat} {v : Value} {n : Nat} (hn : n ≤ a.tmps.size) (ht : t < n) : (a.put (some t) v).eval (.tmp t) = v := put_same a t v (Nat.lt_of_lt_of_le ht hn)
theorem pO {a : Act} {t s : Nat} {u v : Value} (h : s ≠ t) (e : a.eval (.tmp s) = v) : (a.put (some t) u).eval (.tmp s) = v := (put_other a t s u h).trans e
theorem pN {a : Act} {s : Nat} {u v : Value} (e : a.eval (.tmp s) = v) : (a.put none u).eval (.tmp s) = v := e
theorem pZ {a : Act} {n t : Nat} {v : Value} (h : n ≤ a.tmps.size) : n ≤ (a.put (some t) v).tmps.size := by rw [put_size]; exact h
section
variable {P : Program} {o : Oper} {a : Act} {w : World}
theorem x_pickT {c x y : Operand} {u : Value} (ho : o.op = .pick c x y) (hc : a.eval c = .bool true) (hu : a.eval x = u) : (execOp a.eval o).run P w = .ok (.value u) w := x_pick ho hc (by rw [if_pos rfl]; exact hu)
theorem x_pickF {c x y : Operand} {u : Value} (ho : o.op = .pick c x y) (hc : a.eval c = .bool false) (hu : a.eval y = u) : (execOp a.eval o).run P w = .ok (.value u) w := x_pick ho hc (by rw [if_neg (by simp)]; exact hu)
theorem x_call0 {f : FuncId} (ho : o.op = .call { callee := .value (.func f), args := #[], argTypes := #[] }) (hf : (callFunc f #[]).run P w = .ok (.enter f #[]) w) : (execOp a.eval o).run P w = .ok (.enter f #[]) w := by
  have hv : a.eval (.func f) = .func (.func f) #[] #[] := rfl
  unfold execOp
  simp [ho, resolve, Deferred.ofValue, invoke, hv, hf]
theorem x_call3 {f : FuncId} {x y z : Operand} {t t' t'' : TypeId} {u v r : Value} (ho : o.op = .call { callee := .value (.func f), args := #[x, y, z], argTypes := #[t, t', t''] }) (hx : a.eval x = u) (hy : a.eval y = v) (hz : a.eval z = r) (hf : (callFunc f #[u, v, r]).run P w = .ok (.enter f #[u, v, r]) w) : (execOp a.eval o).run P w = .ok (.enter f #[u, v, r]) w := by
  have hv : a.eval (.func f) = .func (.func f) #[] #[] := rfl
  unfold execOp
  simp [ho, resolve, Deferred.ofValue, invoke, hv, hx, hy, hz, hf]
end
theorem eql_int (w : World) (m : Int) : (binOp .eql 3 (.int .i64 m) (.int .i64 m)).run Try.prog w = .ok (.bool true) w := by
  simp [binOp, go_sem, und3]
theorem eql_intB (w : World) (m n : Int) : (binOp .eql 3 (.int .i64 m) (.int .i64 n)).run Try.prog w = .ok (.bool (m == n)) w := by
  simp [binOp, go_sem, und3]
theorem neq_ptr25 {o : Oper} {a : Act} {w : World} {x : Operand} {ad : Addr} {t' : TypeId} (ho : o.op = .binOp .neq 25 x (.const (.pointer none)) t') (hx : a.eval x = .pointer (some ad)) : (execOp a.eval o).run Try.prog w = .ok (.value (.bool true)) w := by
  have he : (binOp .neq 25 (.pointer (some ad)) (.pointer none)).run Try.prog w = .ok (.bool true) w := by kernel_rfl
  have hg : (eqGuard .neq 25 x (.const (.pointer none)) (.pointer (some ad)) (.pointer none)).run Try.prog w = .ok () w := by simp [eqGuard]
  have hc : a.eval (.const (.pointer none)) = .pointer none := rfl
  unfold execOp
  simp only [ho, hx, hc, Sem.run_bind, hg, he, Sem.run_pure, Result.andThen_ok]
theorem len24 (w : World) (ty : TypeId) (A : Option Addr) (n c : Nat) : (Builtin.len_ #[24] ty #[.slice A n c]).run Try.prog w = .ok (.int .i64 n) w := by
  exact run_len_slice (P := Try.prog) w 24 ty A n c (by kernel_rfl)
end Go.Proofs.Ytabnlnhnefjebaa
