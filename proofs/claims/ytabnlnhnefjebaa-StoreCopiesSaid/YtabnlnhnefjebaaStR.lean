/-
  A region that draws its order: two loads, a new slice of one element, an append, a store. No program in sight; no conditions.
-/
import Derived.Test.YtabnlnhnefjebaaSt3
import Derived.Deep.RegionHeld3
namespace Go.Proofs.Ytabnlnhnefjebaa
open Go.RowKit
set_option linter.unusedVariables false
set_option linter.unusedSimpArgs false
section
variable {P : Program} {md : Region.Mode} {ops : Array Oper} {Q : Exit → Act → World → Prop} {fuel : Nat} {listed : Array Bool} {a : Act} {w w2 : World}
theorem step_val {E : Prop} {o : Oper} {K : Act → World → Prop} {d : Option Tmp} {v : Value} {w' : World} (hg : o.guard = none) (hd : o.dst = d) (hr : (execOp a.eval o).run P w = .ok (.value v) w') (h : K (a.put d v) w') :
    if Region.wanted o (yielded ops a.tmps) = true then Oper.wp P o a w K Q else E := by
  have hw : Region.wanted o (yielded ops a.tmps) = true := by simp [Region.wanted, hg]
  rw [if_pos hw]
  unfold Oper.wp
  rw [hr, Oper.upon_value, hd]
  exact h
theorem wpAny_one {i : Nat} {o : Oper} {d : Option Tmp} {v : Value} {w' : World} (ho : ops[i]? = some o) (hg : o.guard = none) (hd : o.dst = d) (r : Region.ready md ops listed = [i]) (hr : (execOp a.eval o).run P w = .ok (.value v) w')
    (h : wpAny P md ops Q fuel (listed.setIfInBounds i true) (a.put d v) w') : wpAny P md ops Q (fuel + 1) listed a w :=
  wpAny_ready r (by simp) (AllReady.cons ho (fun K hK => step_val hg hd hr (hK _ _ h)) AllReady.nil)
/-- two loads i, j and a making k that waits for j alone: whatever order, the same comes of it -/
theorem wpAny_diamond (i j k : Nat) {oi oj ok : Oper} {di dj dk : Option Tmp} {vi vj vk : Value} (hi : ops[i]? = some oi) (hj : ops[j]? = some oj) (hk : ops[k]? = some ok)
    (gi : oi.guard = none) (gj : oj.guard = none) (gk : ok.guard = none) (ei : oi.dst = di) (ej : oj.dst = dj) (ek : ok.dst = dk)
    (r0 : Region.ready md ops listed = [i, j]) (r1 : Region.ready md ops (listed.setIfInBounds i true) = [j]) (r2 : Region.ready md ops (listed.setIfInBounds j true) = [i, k])
    (r3 : Region.ready md ops ((listed.setIfInBounds i true).setIfInBounds j true) = [k]) (r4 : Region.ready md ops ((listed.setIfInBounds j true).setIfInBounds k true) = [i])
    (l2 : (listed.setIfInBounds j true).setIfInBounds i true = (listed.setIfInBounds i true).setIfInBounds j true)
    (l3 : ((listed.setIfInBounds j true).setIfInBounds k true).setIfInBounds i true = ((listed.setIfInBounds i true).setIfInBounds j true).setIfInBounds k true)
    (c2 : (a.put dj vj).put di vi = (a.put di vi).put dj vj) (c3 : ((a.put dj vj).put dk vk).put di vi = ((a.put di vi).put dj vj).put dk vk)
    (x1 : (execOp a.eval oi).run P w = .ok (.value vi) w) (x2 : (execOp (a.put di vi).eval oj).run P w = .ok (.value vj) w) (x3 : (execOp ((a.put di vi).put dj vj).eval ok).run P w = .ok (.value vk) w2)
    (y1 : (execOp a.eval oj).run P w = .ok (.value vj) w) (y2 : (execOp (a.put dj vj).eval oi).run P w = .ok (.value vi) w) (z2 : (execOp (a.put dj vj).eval ok).run P w = .ok (.value vk) w2) (z3 : (execOp ((a.put dj vj).put dk vk).eval oi).run P w2 = .ok (.value vi) w2)
    (h : wpAny P md ops Q fuel (((listed.setIfInBounds i true).setIfInBounds j true).setIfInBounds k true) (((a.put di vi).put dj vj).put dk vk) w2) : wpAny P md ops Q (fuel + 3) listed a w := by
  have h3 : wpAny P md ops Q (fuel + 1) ((listed.setIfInBounds i true).setIfInBounds j true) ((a.put di vi).put dj vj) w := wpAny_one hk gk ek r3 x3 h
  refine wpAny_ready r0 (by simp) (AllReady.cons hi (fun K hK => step_val gi ei x1 (hK _ _ (wpAny_one hj gj ej r1 x2 h3))) (AllReady.cons hj (fun K hK => step_val gj ej y1 (hK _ _ ?_)) AllReady.nil))
  refine wpAny_ready r2 (by simp) (AllReady.cons hi (fun K hK => step_val gi ei y2 (hK _ _ ?_)) (AllReady.cons hk (fun K hK => step_val gk ek z2 (hK _ _ ?_)) AllReady.nil))
  · rw [l2, c2]; exact h3
  · exact wpAny_one hi gi ei r4 z3 (by rw [l3, c3]; exact h)
theorem exec_load {o : Oper} {ty : TypeId} {x : Operand} {ad : Addr} {v : Value} (ho : o.op = .load ty x) (hx : a.eval x = .pointer (some ad)) (hr : (loadVar ty ad).run P w = .ok v w) : (execOp a.eval o).run P w = .ok (.value v) w := by
  unfold execOp
  simp only [ho, hx, Instr.loadAt, Instr.sureAddr, Sem.run_bind, Sem.run_pure, Result.andThen_ok, hr]
theorem exec_buildSlice {o : Oper} {t : TypeId} {x : Operand} {v u : Value} (ho : o.op = .buildSlice t 1 #[(0, x)]) (hx : a.eval x = v) (hr : (Instr.buildSlice t 1 #[(0, v)]).run P w = .ok u w2) : (execOp a.eval o).run P w = .ok (.value u) w2 := by
  unfold execOp
  simp only [ho, List.map_toArray, List.map_cons, List.map_nil, hx, Sem.run_bind, Sem.run_pure, Result.andThen_ok, hr]
theorem exec_append {o : Oper} {s x : Operand} {t : TypeId} {v u r : Value} (ho : o.op = .call { callee := .builtin .append, args := #[s, x], argTypes := #[t, t] }) (hs : a.eval s = v) (hx : a.eval x = u)
    (hr : (Builtin.append_ #[t, t] o.type #[v, u]).run P w = .ok r w2) : (execOp a.eval o).run P w = .ok (.value r) w2 := by
  unfold execOp
  simp only [ho, resolve, invoke, builtin, Sem.run_bind, Sem.run_pure, Result.andThen_ok, List.map_toArray, List.map_cons, List.map_nil, hs, hx, hr]
end
/-- a slice of one block -/
theorem run_build32 (w : World) (c0 c1 c2 c3 c4 c5 c6 c7 c8 c9 c10 c11 c12 c13 c14 c15 c16 c17 c18 c19 c20 c21 c22 c23 c24 c25 c26 c27 c28 c29 c30 c31 : Value) : (Instr.buildSlice 57 1 #[(0, .agg #[c0, c1, c2, c3, c4, c5, c6, c7, c8, c9, c10, c11, c12, c13, c14, c15, c16, c17, c18, c19, c20, c21, c22, c23, c24, c25, c26, c27, c28, c29, c30, c31])]).run Try.prog w = .ok (.slice (some ⟨w.heap.size, 0, none⟩) 1 1) (w.alloc (.cells #[c0, c1, c2, c3, c4, c5, c6, c7, c8, c9, c10, c11, c12, c13, c14, c15, c16, c17, c18, c19, c20, c21, c22, c23, c24, c25, c26, c27, c28, c29, c30, c31] 61)) := by kernel_rfl
theorem run_buildOne (w : World) (F : List Int) (hF : F.length = 32) : (Instr.buildSlice 57 1 #[(0, .agg (u8s F).toArray)]).run Try.prog w = .ok (.slice (some ⟨w.heap.size, 0, none⟩) 1 1) (w.alloc (.cells (u8s F).toArray 61)) := by
  have hlen : (u8s F).length = 32 := by rw [u8s_len, hF]
  generalize u8s F = cs at hlen
  match cs, hlen with
  | [c0, c1, c2, c3, c4, c5, c6, c7, c8, c9, c10, c11, c12, c13, c14, c15, c16, c17, c18, c19, c20, c21, c22, c23, c24, c25, c26, c27, c28, c29, c30, c31], _ => exact run_build32 w c0 c1 c2 c3 c4 c5 c6 c7 c8 c9 c10 c11 c12 c13 c14 c15 c16 c17 c18 c19 c20 c21 c22 c23 c24 c25 c26 c27 c28 c29 c30 c31
end Go.Proofs.Ytabnlnhnefjebaa
