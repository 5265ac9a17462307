/-
  Chapter 41: Append of the program. The memory is that of the given program; no conditions.
-/
import Derived.Test.YtabnlnhnefjebaaStR
namespace Go.Proofs.Ytabnlnhnefjebaa
open Go.RowKit
set_option linter.unusedVariables false
set_option linter.unusedSimpArgs false
section
variable {P : Program} {md : Region.Mode} {ops : Array Oper} {Q : Exit → Act → World → Prop} {fuel : Nat} {listed : Array Bool} {a : Act} {w w2 : World}
theorem step_unit {E : Prop} {o : Oper} {K : Act → World → Prop} {d : Option Tmp} {w' : World} (hg : o.guard = none) (hd : o.dst = d) (hr : (execOp a.eval o).run P w = .ok .skip w') (h : K (a.put d undef) w') :
    if Region.wanted o (yielded ops a.tmps) = true then Oper.wp P o a w K Q else E := by
  have hw : Region.wanted o (yielded ops a.tmps) = true := by simp [Region.wanted, hg]
  rw [if_pos hw]
  unfold Oper.wp
  rw [hr, Oper.upon_skip, hd]
  exact h
theorem wpAny_unit {i : Nat} {o : Oper} {d : Option Tmp} {w' : World} (ho : ops[i]? = some o) (hg : o.guard = none) (hd : o.dst = d) (r : Region.ready md ops listed = [i]) (hr : (execOp a.eval o).run P w = .ok .skip w')
    (h : wpAny P md ops Q fuel (listed.setIfInBounds i true) (a.put d undef) w') : wpAny P md ops Q (fuel + 1) listed a w :=
  wpAny_ready r (by simp) (AllReady.cons ho (fun K hK => step_unit hg hd hr (hK _ _ h)) AllReady.nil)
theorem exec_store {o : Oper} {ty : TypeId} {x y : Operand} {ad : Addr} {v : Value} (ho : o.op = .store ty x y) (hx : a.eval x = .pointer (some ad)) (hy : a.eval y = v) (hr : (storeVar ty ad v).run P w = .ok () w2) : (execOp a.eval o).run P w = .ok .skip w2 := by
  unfold execOp
  simp only [ho, hx, hy, Instr.storeAt, Instr.sureAddr, Sem.run_bind, Sem.run_pure, Result.andThen_ok, hr]
end
theorem load57 {w : World} {g i : Nat} {A : Option Addr} {n c : Nat} (h : w.cell? ⟨g, i, none⟩ = some (.slice A n c)) : (loadVar 57 ⟨g, i, none⟩).run Try.prog w = .ok (.slice A n c) w := by
  have hagg : (isAgg 57).run Try.prog w = .ok false w := by
    unfold isAgg
    rw [Sem.run_bind, run_underlying und57 w]
    rfl
  unfold loadVar
  rw [Sem.run_bind, hagg, Result.andThen_ok]
  simp [h]
theorem store57 {w : World} {g i : Nat} {A : Option Addr} {n c : Nat} {v : Value} (h : w.cell? ⟨g, i, none⟩ = some v) (hf : w.frozen? ⟨g, i, none⟩ = false) : (storeVar 57 ⟨g, i, none⟩ (.slice A n c)).run Try.prog w = .ok () (w.setCell ⟨g, i, none⟩ (.slice A n c)) := by
  have hsz : (sizeOf 57).run Try.prog w = .ok 1 w := by kernel_rfl
  have hc : (Value.slice A n c).cells = #[.slice A n c] := rfl
  unfold storeVar
  rw [Sem.run_bind, hsz, Result.andThen_ok, hc]
  have ha : (⟨g, i, none⟩ : Addr).add 0 = ⟨g, i, none⟩ := rfl
  simp [storeCells, ha, h, hf, go_sem]
theorem load61v {w : World} {g : Nat} {F : List Int} (h : Blk w g 61 (u8s F).toArray) (hF : Hid (F.length = 32)) : (loadVar 61 ⟨g, 0, none⟩).run Try.prog w = .ok (.agg (u8s F).toArray) w :=
  run_loadVar_row w g 61 61 _ (0, 0) _ h und61 rfl (info_32 hF)
theorem flat_snoc (B : List (List Int)) (F : List Int) : (B ++ [F]).flatten = B.flatten ++ F := by simp
theorem src_one (w : World) (F : List Int) (hF : F.length = 32) (t : TypeId) : Src (w.alloc (.cells (u8s F).toArray t)) 32 (some ⟨w.heap.size, 0, none⟩) 1 (u8s F) := by
  refine ⟨by rw [u8s_len, hF], fun _ => ⟨_, rfl, fun j u hu => ?_⟩⟩
  rw [Go.WideShapes.add_plain, (Blk.new w _ _).cell, Nat.zero_add]
  simpa using hu
/-- what 's.blocks = append(s.blocks, next)' does -/
theorem push_run {W : World} {p : Nat} {own : Option Nat} {B : List (List Int)} {sy : Nat} {A : Option Addr} {c : Nat} (h : StV W p own B sy A c) (F : List Int) (hF : F.length = 32) (hb : byteOk F) (hl : B.length + 1 ≤ 16384) :
    ∃ A' c' W2, (Builtin.append_ #[57, 57] 57 #[.slice A B.length c, .slice (some ⟨W.heap.size, 0, none⟩) 1 1]).run Try.prog (W.alloc (.cells (u8s F).toArray 61)) = .ok (.slice A' (B.length + 1) c') W2 ∧
      W2.cell? ⟨p, 0, none⟩ = some (.slice A B.length c) ∧ W2.frozen? ⟨p, 0, none⟩ = false ∧
      StV (W2.setCell ⟨p, 0, none⟩ (.slice A' (B.length + 1) c')) p (Value.slice A' (B.length + 1) c').ownBlock (B ++ [F]) sy A' c' ∧
      ((Value.slice A' (B.length + 1) c').ownBlock = own ∨ ∃ g, (Value.slice A' (B.length + 1) c').ownBlock = some g ∧ W.heap.size ≤ g) ∧
      Chg (fun k => k = p ∨ own = some k) W (W2.setCell ⟨p, 0, none⟩ (.slice A' (B.length + 1) c')) := by
  obtain ⟨i0, hi, hz0, hz1, hz2⟩ := info_parts row61
  obtain ⟨A', c', W2, r1, r2, r3, r4⟩ := append_full (P := Try.prog) (W.alloc (.cells (u8s F).toArray 61)) 0 57 57 61 i0 _ 32 32 und57 hi hz0 hz1 hz2 rfl (by decide) _ B.length _ (h.row.alloc _) (some ⟨W.heap.size, 0, none⟩) 1 1 (u8s F) (src_one W F hF _) (u8s_one F) (by unfold maxLen; omega) (by omega) (Nat.zero_le _)
  have hap := own_blk_ne h.row h.box ne5961
  have b2 : Blk W2 p 59 #[.slice A B.length c, .int .i64 sy] := (h.box.alloc _).grown r3 (fun e => hap e.symm)
  have hap2 : (Value.slice A' (B.length + 1) c').ownBlock ≠ some p := own_blk_ne r2 b2 ne5961
  refine ⟨A', c', W2, r1, by simpa using b2.cell 0, b2.frozen 0, ⟨by simp, ?_, ?_, ?_, by simp; omega, by have := h.syn; simp; omega⟩, ?_, ?_⟩
  · simpa using b2.set_ 0 (.slice A' (B.length + 1) c')
  · have hk : Chg (fun k => k = p) W2 (W2.setCell ⟨p, 0, none⟩ (.slice A' (B.length + 1) c')) := (Chg.refl (fun k => k = p) W2).setCell (p := ⟨p, 0, none⟩) (fun _ => rfl) _
    have := own_chg r2 hk (fun g e h => hap2 (by rw [e, h]))
    rw [flat_snoc, u8s_app]
    simpa using this
  · intro x hx
    rcases List.mem_append.1 hx with hx | hx
    · exact h.ok x hx
    · simp at hx; subst hx; exact ⟨hF, hb⟩
  · rcases r4 with r4 | r4
    · left; rw [r4, ← h.own_]
    · right; exact ⟨_, r4, by simp⟩
  · have hk : Chg (fun k => k = p ∨ own = some k) W W2 := ((Chg.refl _ W).alloc _).trans (Chg.of_grown (S := fun k => own = some k) r3 (fun i _ e => by rw [h.own_]; exact e)) (fun i _ e => .inr e)
    exact hk.setCell (fun _ => .inl rfl) _
theorem StV.drew {w : World} {p : Nat} {own : Option Nat} {B : List (List Int)} {sy : Nat} {A : Option Addr} {c : Nat} (h : StV w p own B sy A c) : StV w.drew p own B sy A c := ⟨h.own_, h.box, h.row, h.ok, h.len, h.syn⟩
section
variable {a : Act}
theorem put_same (a : Act) (t : Nat) (v : Value) (h : t < a.tmps.size) : (a.put (some t) v).eval (.tmp t) = v := by simp [Act.put, Act.eval, h]
theorem put_other (a : Act) (t s : Nat) (v : Value) (h : s ≠ t) : (a.put (some t) v).eval (.tmp s) = a.eval (.tmp s) := by
  simp only [Act.put, Act.eval, Array.getD_eq_getD_getElem?]
  rw [Array.getElem?_setIfInBounds_ne (by omega)]
theorem put_comm (a : Act) (s t : Nat) (u v : Value) (h : s ≠ t) : (a.put (some s) u).put (some t) v = (a.put (some t) v).put (some s) u := by
  simp only [Act.put]
  rw [Array.setIfInBounds_comm _ _ h]
theorem put_none (a : Act) (v : Value) : a.put none v = a := rfl
theorem put_size (a : Act) (t : Nat) (v : Value) : (a.put (some t) v).tmps.size = a.tmps.size := by simp [Act.put]
end
theorem field59 (W : World) (p : Nat) : (Instr.fieldAt 59 (.pointer (some ⟨p, 0, none⟩)) 0).run Try.prog W = .ok (.pointer (some ⟨p, 0, none⟩)) W := by kernel_rfl
/-- the orders of 's.blocks = append(s.blocks, next)': closed facts on its eleven operations -/
def pushOk (ops : Array Oper) : Bool :=
  let L := Array.replicate 11 false
  Region.noSelect ops && ((ops.size == 11) && (Region.free .any ops L 0 && ((Region.ready .any ops L).contains 0 && (Region.free .any ops (L.setIfInBounds 0 true) 1 && ((Region.ready .any ops (L.setIfInBounds 0 true)).contains 1 && (Region.free .any ops ((L.setIfInBounds 0 true).setIfInBounds 1 true) 2 && ((Region.ready .any ops ((L.setIfInBounds 0 true).setIfInBounds 1 true)).contains 2 && (Region.free .any ops (((L.setIfInBounds 0 true).setIfInBounds 1 true).setIfInBounds 2 true) 3 && ((Region.ready .any ops (((L.setIfInBounds 0 true).setIfInBounds 1 true).setIfInBounds 2 true)).contains 3 && ((Region.ready .any ops ((((L.setIfInBounds 0 true).setIfInBounds 1 true).setIfInBounds 2 true).setIfInBounds 3 true) == [4, 5]) && ((Region.ready .any ops (((((L.setIfInBounds 0 true).setIfInBounds 1 true).setIfInBounds 2 true).setIfInBounds 3 true).setIfInBounds 4 true) == [5]) && ((Region.ready .any ops (((((L.setIfInBounds 0 true).setIfInBounds 1 true).setIfInBounds 2 true).setIfInBounds 3 true).setIfInBounds 5 true) == [4, 6]) && ((Region.ready .any ops ((((((L.setIfInBounds 0 true).setIfInBounds 1 true).setIfInBounds 2 true).setIfInBounds 3 true).setIfInBounds 4 true).setIfInBounds 5 true) == [6]) && ((Region.ready .any ops ((((((L.setIfInBounds 0 true).setIfInBounds 1 true).setIfInBounds 2 true).setIfInBounds 3 true).setIfInBounds 5 true).setIfInBounds 6 true) == [4]) && ((Region.ready .any ops (((((((L.setIfInBounds 0 true).setIfInBounds 1 true).setIfInBounds 2 true).setIfInBounds 3 true).setIfInBounds 4 true).setIfInBounds 5 true).setIfInBounds 6 true) == [7]) && ((Region.ready .any ops ((((((((L.setIfInBounds 0 true).setIfInBounds 1 true).setIfInBounds 2 true).setIfInBounds 3 true).setIfInBounds 4 true).setIfInBounds 5 true).setIfInBounds 6 true).setIfInBounds 7 true) == [8]) && ((Region.ready .any ops (((((((((L.setIfInBounds 0 true).setIfInBounds 1 true).setIfInBounds 2 true).setIfInBounds 3 true).setIfInBounds 4 true).setIfInBounds 5 true).setIfInBounds 6 true).setIfInBounds 7 true).setIfInBounds 8 true) == [9]) && ((Region.ready .any ops ((((((((((L.setIfInBounds 0 true).setIfInBounds 1 true).setIfInBounds 2 true).setIfInBounds 3 true).setIfInBounds 4 true).setIfInBounds 5 true).setIfInBounds 6 true).setIfInBounds 7 true).setIfInBounds 8 true).setIfInBounds 9 true) == [10]) && ((Region.ready .any ops (((((((((((L.setIfInBounds 0 true).setIfInBounds 1 true).setIfInBounds 2 true).setIfInBounds 3 true).setIfInBounds 4 true).setIfInBounds 5 true).setIfInBounds 6 true).setIfInBounds 7 true).setIfInBounds 8 true).setIfInBounds 9 true).setIfInBounds 10 true) == []))))))))))))))))))))
theorem push_any {ops : Array Oper} {Q : Exit → Act → World → Prop} {a : Act} {w : World} (id : Nat) (b s0 sx : Nat) {y0 y1 y2 y3 y4 y5 y6 y8 y9 y10 : TypeId} {q0 q1 q2 q3 q4 q5 q6 q7 q8 q9 q10 : String} {f0 f1 f2 f3 f4 f5 f6 f7 f8 f9 f10 : Array Edge}
    (hok : pushOk ops = true)
    (h0 : ops[0]? = some ⟨some b, .move (.tmp s0), y0, q0, f0, none⟩) (h1 : ops[1]? = some ⟨some (b + 1), .move (.tmp s0), y1, q1, f1, none⟩) (h2 : ops[2]? = some ⟨some (b + 2), .nilCheck (.tmp (b + 1)), y2, q2, f2, none⟩)
    (h3 : ops[3]? = some ⟨some (b + 3), .fieldAddr 59 (.tmp (b + 2)) 0, y3, q3, f3, none⟩) (h4 : ops[4]? = some ⟨some (b + 4), .load 57 (.tmp (b + 3)), y4, q4, f4, none⟩) (h5 : ops[5]? = some ⟨some (b + 5), .load 61 (.tmp sx), y5, q5, f5, none⟩)
    (h6 : ops[6]? = some ⟨some (b + 6), .buildSlice 57 1 #[(0, .tmp (b + 5))], y6, q6, f6, none⟩) (h7 : ops[7]? = some ⟨some (b + 7), .call { callee := .builtin .append, args := #[.tmp (b + 4), .tmp (b + 6)], argTypes := #[57, 57] }, 57, q7, f7, none⟩)
    (h8 : ops[8]? = some ⟨some (b + 8), .nilCheck (.tmp b), y8, q8, f8, none⟩) (h9 : ops[9]? = some ⟨some (b + 9), .fieldAddr 59 (.tmp (b + 8)) 0, y9, q9, f9, none⟩) (h10 : ops[10]? = some ⟨none, .store 57 (.tmp (b + 9)) (.tmp (b + 7)), y10, q10, f10, none⟩)
    (hs0 : s0 < b) (hsx : sx < b) (hsz : b + 9 < a.tmps.size) (hQ : ∀ c a (d : Nat) v w, Q (.panic c) (a.put (some d) v) w → Q (.panic c) a w)
    (p : Nat) (e0 : a.eval (.tmp s0) = .pointer (some ⟨p, 0, none⟩)) (g : Nat) (ex : a.eval (.tmp sx) = .pointer (some ⟨g, 0, none⟩))
    {own : Option Nat} {B : List (List Int)} {sy : Nat} {A : Option Addr} {c : Nat} (h : StV w p own B sy A c) (F : List Int) (hF : F.length = 32) (hb : byteOk F) (hg : Blk w g 61 (u8s F).toArray) (hl : B.length + 1 ≤ 16384)
    (K : ∀ A' c' w' own' z0 z1 z2 z3 z4 z5 z6 z7 z8 z9, Hid (StV w' p own' (B ++ [F]) sy A' c') → Hid (own' = own ∨ ∃ g, own' = some g ∧ w.heap.size ≤ g) → Hid (Chg (fun k => k = p ∨ own = some k) w w') →
      Q .normal ((((((((((a.put (some b) z0).put (some (b + 1)) z1).put (some (b + 2)) z2).put (some (b + 3)) z3).put (some (b + 4)) z4).put (some (b + 5)) z5).put (some (b + 6)) z6).put (some (b + 7)) z7).put (some (b + 8)) z8).put (some (b + 9)) z9) w') :
    (Code.region id ops true).wp Try.prog Q a w := by
  unfold pushOk at hok
  simp only [Bool.and_eq_true, beq_iff_eq] at hok
  obtain ⟨k0, k1, k2, k3, k4, k5, k6, k7, k8, k9, k10, k11, k12, k13, k14, k15, k16, k17, k18, k19⟩ := hok
  obtain ⟨A', c', W2, r1, r2, r3, r4, r5, r6⟩ := push_run (W := w.drew) h.drew F hF hb hl
  have hp0 := h.drew.box.cell 0
  simp only [List.getElem?_toArray, List.getElem?_cons_zero] at hp0
  have x57 := load57 (w := w.drew) hp0
  have x57b := load57 (w := w.drew.alloc (.cells (u8s F).toArray 61)) (g := p) (i := 0) (A := A) (n := B.length) (c := c) (by simpa using (h.drew.box.alloc (.cells (u8s F).toArray 61)).cell 0)
  have x61 := load61v (w := w.drew) hg.drew (Lib.hid hF)
  have xbo := run_buildOne w.drew F hF
  have xst := store57 (A := A') (n := B.length + 1) (c := c') r2 r3
  have hnil : ∀ W : World, ∀ (a : Act) (o : Oper) (x : Operand) (ad : Addr), o.op = .nilCheck x → a.eval x = .pointer (some ad) → (execOp a.eval o).run Try.prog W = .ok (.value (.pointer (some ad))) W := by
    intro W a o x ad ho hx
    unfold execOp
    simp only [ho, hx, Sem.run_pure]
  have hmv : ∀ W : World, ∀ (a : Act) (o : Oper) (x : Operand), o.op = .move x → (execOp a.eval o).run Try.prog W = .ok (.value (a.eval x)) W := by
    intro W a o x ho
    unfold execOp
    simp only [ho, Sem.run_pure]
  have hfa : ∀ W : World, ∀ (a : Act) (o : Oper) (x : Operand), o.op = .fieldAddr 59 x 0 → a.eval x = .pointer (some ⟨p, 0, none⟩) → (execOp a.eval o).run Try.prog W = .ok (.value (.pointer (some ⟨p, 0, none⟩))) W := by
    intro W a o x ho hx
    unfold execOp
    simp only [ho, hx, Sem.run_bind, field59 W p, Sem.run_pure, Result.andThen_ok]
  refine wp_region_any (by kernel_rfl) ?_
  change wpAny _ _ _ _ _ _ _ w.drew
  rw [k1]
  refine wpAny_take (i := 0) (v := (.pointer (some ⟨p, 0, none⟩))) (fuel := 10) h0 k0 k2 k3 (fun c a w => hQ c a _ _ w) (Or.inl ⟨rfl, fun W => ?_⟩) ?_
  · exact (hmv W _ _ _ rfl).trans (congrArg (fun v => Result.ok (Next.value v) W) (by exact e0))
  refine wpAny_take (i := 1) (v := (.pointer (some ⟨p, 0, none⟩))) (fuel := 9) h1 k0 k4 k5 (fun c a w => hQ c a _ _ w) (Or.inl ⟨rfl, fun W => ?_⟩) ?_
  · exact (hmv W _ _ _ rfl).trans (congrArg (fun v => Result.ok (Next.value v) W) (by rw [put_other _ _ _ _ (by omega)]; exact e0))
  refine wpAny_take (i := 2) (v := (.pointer (some ⟨p, 0, none⟩))) (fuel := 8) h2 k0 k6 k7 (fun c a w => hQ c a _ _ w) (Or.inl ⟨rfl, fun W => ?_⟩) ?_
  · exact hnil W _ _ _ _ rfl (by rw [put_same _ _ _ (by first | omega | (simp only [put_size]; omega))])
  refine wpAny_take (i := 3) (v := (.pointer (some ⟨p, 0, none⟩))) (fuel := 7) h3 k0 k8 k9 (fun c a w => hQ c a _ _ w) (Or.inl ⟨rfl, fun W => ?_⟩) ?_
  · exact hfa W _ _ _ rfl (by rw [put_same _ _ _ (by first | omega | (simp only [put_size]; omega))])
  refine wpAny_diamond 4 5 6 (fuel := 4) h4 h5 h6 rfl rfl rfl rfl rfl rfl k10 k11 k12 k13 k14 rfl rfl (put_comm _ _ _ _ _ (by omega)) (by rw [put_comm _ (b + 6) (b + 4) _ _ (by omega), put_comm _ (b + 5) (b + 4) _ _ (by omega)]) (exec_load rfl ?_ x57) (exec_load rfl ?_ x61) (exec_buildSlice rfl ?_ xbo) (exec_load rfl ?_ x61) (exec_load rfl ?_ x57) (exec_buildSlice rfl ?_ xbo) (exec_load rfl ?_ x57b) ?_
  · rw [put_same _ _ _ (by first | omega | (simp only [put_size]; omega))]
  · rw [put_other _ _ _ _ (by omega)]; rw [put_other _ _ _ _ (by omega)]; rw [put_other _ _ _ _ (by omega)]; rw [put_other _ _ _ _ (by omega)]; rw [put_other _ _ _ _ (by omega)]; exact ex
  · rw [put_same _ _ _ (by first | omega | (simp only [put_size]; omega))]
  · rw [put_other _ _ _ _ (by omega)]; rw [put_other _ _ _ _ (by omega)]; rw [put_other _ _ _ _ (by omega)]; rw [put_other _ _ _ _ (by omega)]; exact ex
  · rw [put_other _ _ _ _ (by omega)]; rw [put_same _ _ _ (by first | omega | (simp only [put_size]; omega))]
  · rw [put_same _ _ _ (by first | omega | (simp only [put_size]; omega))]
  · rw [put_other _ _ _ _ (by omega)]; rw [put_other _ _ _ _ (by omega)]; rw [put_same _ _ _ (by first | omega | (simp only [put_size]; omega))]
  refine wpAny_one (i := 7) (fuel := 3) h7 rfl rfl k15 (exec_append rfl ?_ ?_ r1) ?_
  · rw [put_other _ _ _ _ (by omega)]; rw [put_other _ _ _ _ (by omega)]; rw [put_same _ _ _ (by first | omega | (simp only [put_size]; omega))]
  · rw [put_same _ _ _ (by first | omega | (simp only [put_size]; omega))]
  refine wpAny_one (i := 8) (fuel := 2) h8 rfl rfl k16 (hnil _ _ _ _ _ rfl (by rw [put_other _ _ _ _ (by omega)]; rw [put_other _ _ _ _ (by omega)]; rw [put_other _ _ _ _ (by omega)]; rw [put_other _ _ _ _ (by omega)]; rw [put_other _ _ _ _ (by omega)]; rw [put_other _ _ _ _ (by omega)]; rw [put_other _ _ _ _ (by omega)]; rw [put_same _ _ _ (by first | omega | (simp only [put_size]; omega))])) ?_
  refine wpAny_one (i := 9) (fuel := 1) h9 rfl rfl k17 (hfa _ _ _ _ rfl (by rw [put_same _ _ _ (by first | omega | (simp only [put_size]; omega))])) ?_
  refine wpAny_unit (i := 10) (fuel := 0) h10 rfl rfl k18 (exec_store rfl ?_ ?_ xst) ?_
  · rw [put_same _ _ _ (by first | omega | (simp only [put_size]; omega))]
  · rw [put_other _ _ _ _ (by omega)]; rw [put_other _ _ _ _ (by omega)]; rw [put_same _ _ _ (by first | omega | (simp only [put_size]; omega))]
  have r6' : Chg (fun k => k = p ∨ own = some k) w (W2.setCell ⟨p, 0, none⟩ (.slice A' (B.length + 1) c')) := ⟨r6.os, r6.tape, r6.output, r6.size, r6.block⟩
  refine wpAny_done k19 ?_ _
  rw [put_none]
  exact K A' c' (W2.setCell ⟨p, 0, none⟩ (.slice A' (B.length + 1) c')) (Value.slice A' (B.length + 1) c').ownBlock _ _ _ _ _ _ _ _ _ _ (Lib.hid r4) (Lib.hid r5) (Lib.hid r6')

theorem mk_num {n m : Nat} {num : Int} {A : Option Addr} {c : Nat} {l : List Int} {w : World} {F : List Int} (hnum : Hid (num = (n : Int))) (hm : Hid (l.length = m)) (hF : Hid (F = blk n (l.take 26) (decide (l.length ≤ 26)))) (hr : RdB w w.heap.size A l) (hc : m ≤ c) (hc2 : c ≤ 9223372036854775807) (hn1 : n ≤ 100000) {q : Nat} (hq : Hid (q = min m 26)) :
    Calls Try.prog 41 #[.int .i64 num, .slice A m c] w (fun e w' => e = .returned (.tuple #[.agg (u8s F).toArray, .int .i64 q]) ∧ Below w.heap.size w w') := by
  rw [hnum.out, hq.out]
  exact mk_at hm hF hr hc hc2 hn1
/-- the state of Append's loop -/
structure AppL (w : World) (p : Nat) (own : Option Nat) (B : List (List Int)) (sy : Nat) (b : List Int) (r : List Int) (A2 : Option Addr) (c2 : Nat) (B1 : List (List Int)) (own1 : Option Nat) (A1 : Option Addr) (c1 : Nat) (wr : World) : Prop where
  st : StV wr p own1 B1 sy A1 c1
  tot : B1 ++ brec B1.length r = B ++ brec B.length b
  rd : RdB wr w.heap.size A2 r
  cap : r.length ≤ c2 ∧ c2 ≤ 9223372036854775807
  bok : byteOk r
  own_ : own1 = own ∨ ∃ g, own1 = some g ∧ w.heap.size ≤ g
  chg : Chg (fun k => k = p ∨ own = some k) w wr
  ap : ∀ ad, A2 = some ad → ad.block ≠ p ∧ own ≠ some ad.block
  room : B1.length + need r ≤ 16384
theorem rd_chg {w wr wn : World} {p : Nat} {own : Option Nat} {A : Option Addr} {r : List Int} (h : RdB wr w.heap.size A r) (hs : w.heap.size ≤ wr.heap.size) (k : Chg (fun k => k = p ∨ own = some k) wr wn) (ap : ∀ ad, A = some ad → ad.block < w.heap.size → ad.block ≠ p ∧ own ≠ some ad.block) : RdB wn w.heap.size A r := by
  intro hn
  obtain ⟨g, off, e, hb, hc⟩ := h hn
  refine ⟨g, off, e, hb, fun i j hi hj => ?_⟩
  have := ap _ e hb
  exact (World.cell?_of_block (k.block g (by omega) (fun h => h.elim this.1 this.2))).trans (hc i j hi hj)
theorem RdB.cut {w : World} {B : Nat} {A : Option Addr} {l : List Int} {c q : Nat} (h : RdB w B A l) (hl : l.length ≤ c) (hq : q ≤ l.length) : RdB w B (if c = q then A else A.map (·.add q)) (l.drop q) := by
  intro hn
  rw [List.length_drop] at hn
  obtain ⟨b, off, rfl, hb, hc⟩ := h.all (by omega)
  rw [if_neg (by omega)]
  refine ⟨b, off + q, by simp [Go.WideShapes.add_plain], hb, fun i j hi hj => ?_⟩
  rw [List.length_drop] at hi
  obtain rfl : j = 0 := by omega
  have := hc (q + i) (by omega)
  dsimp only
  rw [at1_drop]
  simpa [Nat.add_assoc] using this
theorem block_of_add (a : Addr) (n : Nat) : (a.add n).block = a.block := by unfold Addr.add; split <;> rfl
theorem cut_ap {A : Option Addr} {c q p : Nat} {own : Option Nat} (h : ∀ ad, A = some ad → ad.block ≠ p ∧ own ≠ some ad.block) : ∀ ad, (if c = q then A else A.map (·.add q)) = some ad → ad.block ≠ p ∧ own ≠ some ad.block := by
  intro ad e
  split at e
  · exact h ad e
  · cases A with
    | none => simp at e
    | some a0 =>
      simp at e
      subst e
      rw [block_of_add]
      exact h a0 rfl
theorem bel_next {wr w1 w2 w3 : World} {g : Nat} {o : Obj} (h1 : Hid (Below wr.heap.size wr w1)) (hg : Hid (g = w1.heap.size)) (h2 : Hid (w2 = w1.alloc o)) (h3 : Hid (Only g w2 w3)) : Below wr.heap.size wr w3 := by
  have b1 : Below wr.heap.size wr w2 := by rw [h2.out]; exact (h1.out).alloc (h1.out).size _
  exact b1.trans ((h3.out).below b1.size (by rw [hg.out]; exact (h1.out).size))
theorem own_next {wr w3 : World} {own1 own2 : Option Nat} (hb : Hid (Below wr.heap.size wr w3)) (h : Hid (own2 = own1 ∨ ∃ g, own2 = some g ∧ w3.heap.size ≤ g)) : own2 = own1 ∨ ∃ g, own2 = some g ∧ wr.heap.size ≤ g := by
  rcases h.out with h | ⟨g, h, hg⟩
  · exact .inl h
  · exact .inr ⟨g, h, Nat.le_trans (hb.out).size hg⟩
theorem chg_next {wr w3 w4 : World} {S : Nat → Prop} (hb : Hid (Below wr.heap.size wr w3)) (h : Hid (Chg S w3 w4)) : Chg S wr w4 := (Chg.of_below' (S := S) hb.out).trans h.out (fun _ _ h => h)
theorem AppL.next {w : World} {p : Nat} {own : Option Nat} {B : List (List Int)} {sy : Nat} {b r : List Int} {A2 : Option Addr} {c2 : Nat} {B1 : List (List Int)} {own1 : Option Nat} {A1 : Option Addr} {c1 : Nat} {wr wn : World} {F : List Int} {own2 : Option Nat} {A3 : Option Addr} {c3 : Nat}
    (h : AppL w p own B sy b r A2 c2 B1 own1 A1 c1 wr) (hr : r ≠ []) (hF : F = blk (B1.length + 1) (r.take 26) (decide (r.length ≤ 26)))
    (hs : StV wn p own2 (B1 ++ [F]) sy A3 c3) (ho : own2 = own1 ∨ ∃ g, own2 = some g ∧ wr.heap.size ≤ g) (hk : Chg (fun k => k = p ∨ own1 = some k) wr wn) {q : Nat} (hq : q = min r.length 26) :
    AppL w p own B sy b (r.drop q) (if c2 = q then A2 else A2.map (·.add q)) (c2 - q) (B1 ++ [F]) own2 A3 c3 wn := by
  have hsz := h.chg.size
  have hd : r.drop q = r.drop 26 := by
    rw [hq]
    rcases Nat.le_total r.length 26 with h | h
    · rw [Nat.min_eq_left h, List.drop_of_length_le h, List.drop_of_length_le (Nat.le_refl _)]
    · rw [Nat.min_eq_right h]
  have hp : 0 < r.length := List.length_pos_iff.2 hr
  have hql : q ≤ r.length := by omega
  have hrd : RdB wn w.heap.size A2 r := rd_chg h.rd hsz hk (fun ad e hb => ⟨(h.ap ad e).1, fun e2 => by
    rcases h.own_ with h' | ⟨g, h', hg⟩
    · exact (h.ap ad e).2 (h' ▸ e2)
    · rw [h'] at e2; injection e2 with e2; omega⟩)
  refine ⟨hs, ?_, ?_, ?_, byteOk_drop h.bok q, ?_, ?_, cut_ap h.ap, ?_⟩
  · rw [← h.tot, hd, brec_cons B1.length r hr, hF]; simp
  · exact hrd.cut h.cap.1 hql
  · rw [List.length_drop]; have := h.cap; omega
  · rcases ho with ho | ⟨g, ho, hg⟩
    · rw [ho]; exact h.own_
    · exact .inr ⟨g, ho, by omega⟩
  · refine h.chg.trans hk (fun i hi e => ?_)
    rcases e with e | e
    · exact .inl e
    · rcases h.own_ with h' | ⟨g, h', hg⟩
      · exact .inr (h' ▸ e)
      · rw [h'] at e; injection e with e; omega
  · have := h.room; rw [hd]; have := need_drop r hr; simp; omega
def AppPost (p : Nat) (own : Option Nat) (B : List (List Int)) (sy : Nat) (b : List Int) (w : World) (e : Ending) (w' : World) : Prop :=
  e = .returned (.int .i64 0) ∧ ∃ own', St w' p own' (B ++ brec B.length b) sy ∧ (own' = own ∨ ∃ g, own' = some g ∧ w.heap.size ≤ g) ∧ Chg (fun k => k = p ∨ own = some k) w w'
set_option maxHeartbeats 3200000 in
theorem append_ok (p : Nat) (own : Option Nat) (B : List (List Int)) (sy : Nat) (A0 : Option Addr) (c0 : Nat) (b : List Int) (w : World) (h : St w p own B sy) (hr : RdB w w.heap.size A0 b) (hc : b.length ≤ c0) (hc2 : c0 ≤ 9223372036854775807) (hb : byteOk b)
    (hap : ∀ ad, A0 = some ad → ad.block ≠ p ∧ own ≠ some ad.block) (h1 : 1 ≤ b.length) (h2 : b.length ≤ 4096) (h3 : B.length + need b ≤ 16384) :
    Calls Try.prog 19 #[.pointer (some ⟨p, 0, none⟩), .slice A0 b.length c0] w (AppPost p own B sy b w) := by
  obtain ⟨A, c, h⟩ := h
  have HL0 : Hid (AppL w p own B sy b b A0 c0 B own A c w) := Lib.hid ⟨h, rfl, hr, ⟨hc, hc2⟩, hb, .inl rfl, Chg.refl _ _, hap, h3⟩
  have x0 := h.box.cell 0
  have hl := h.len
  have hnd : (need b : Int) = ((b.length : Int) + 25) / 26 := by unfold need; omega
  have h3' : (B.length : Int) + ((b.length : Int) + 25) / 26 ≤ 16384 := by omega
  have h1' : ¬ (b.length : Int) < 1 := by omega
  have h2' : ¬ 4096 < (b.length : Int) := by omega
  simp at x0
  obtain ⟨N, HN⟩ : ∃ N, Hid (N = B.length) := ⟨_, Lib.hid rfl⟩
  rw [← HN.out] at x0 hl h3'
  obtain ⟨m, HM⟩ : ∃ m, Hid (m = b.length) := ⟨_, Lib.hid rfl⟩
  rw [← HM.out] at hc h1 h2 h3' h1' h2' ⊢
  have h4' : ¬ 16384 < (N : Int) + ((m : Int) + 25) / 26 := by omega
  clear h hr hb hap hnd h3
  go_enter Try.func19, Try.ntmps19
  go_wp2
  clear x0
  go_loopw [1] (fun v wr => ∃ r A2 c2 B1 own1 A1 c1, v = .slice A2 r.length c2 ∧ AppL w p own B sy b r A2 c2 B1 own1 A1 c1 wr) (fun v _ => match v with | .slice _ n _ => n | _ => 0)
  case atStart => exact ⟨b, A0, c0, B, own, A, c, by rw [HM.out], HL0.out⟩
  case round =>
    obtain ⟨r, A2, c2, B1, own1, A1, c1, rfl, hL⟩ := hrel
    have HL := Lib.hid hL
    have x0 := hL.st.box.cell 0
    have hl1 := hL.st.len
    have hcap1 := hL.cap.1
    have hcap2 := hL.cap.2
    simp at x0
    obtain ⟨N1, HN1⟩ : ∃ N1, Hid (N1 = B1.length) := ⟨_, Lib.hid rfl⟩
    obtain ⟨m1, HM1⟩ : ∃ m1, Hid (m1 = r.length) := ⟨_, Lib.hid rfl⟩
    rw [← HN1.out] at x0 hl1
    rw [← HM1.out] at hcap1 ⊢
    clear hL
    by_cases hpos : 0 < m1
    · have hr0 : r ≠ [] := fun e => by rw [HM1.out, e] at hpos; simp at hpos
      have HR0 := Lib.hid hr0
      have hpos' : 0 < (m1 : Int) := by omega
      have hroom : N1 + 1 ≤ 16384 := by have := (HL.out).room; have := need_pos r hr0; rw [HN1.out]; omega
      obtain ⟨F, HF⟩ : ∃ F, Hid (F = blk (N1 + 1) (r.take 26) (decide (r.length ≤ 26))) := ⟨_, Lib.hid rfl⟩
      obtain ⟨q, Hq⟩ : ∃ q, Hid (q = min m1 26) := ⟨_, Lib.hid rfl⟩
      have hq1 : q ≤ m1 := by rw [Hq.out]; omega
      have hq2 : 1 ≤ q := by rw [Hq.out]; omega
      have hl26 : (r.take 26).length ≤ 26 := by rw [List.length_take]; omega
      have HFl : Hid (F.length = 32) := Lib.hid (by rw [HF.out]; exact blk_len _ _ _ hl26)
      have HFb : Hid (byteOk F) := Lib.hid (by rw [HF.out]; exact blk_ok _ _ _ (byteOk_take (HL.out).bok 26) hl26)
      have HNum : Hid ((N1 : Int) + 1 = ((N1 + 1 : Nat) : Int)) := Lib.hid (by omega)
      have HMr : Hid (r.length = m1) := Lib.hid (by rw [HM1.out])
      have HRd : Hid (RdB wr wr.heap.size A2 r) := Lib.hid (Rd.more (HL.out).rd (HL.out).chg.size)
      clear hl26 hr0
      go_upto_region 7 with (first
        | (go_at_call 41; refine (mk_num HNum HMr HF HRd.out hcap1 hcap2 (Nat.le_trans hroom (by decide)) Hq).mono ?_; rintro e w1 ⟨rfl, hb1⟩; have Hb1 := Lib.hid hb1; clear hb1)
        | (refine wpList_alloc_arr rfl 61 rfl _ zero61 ?_; intro g5 w2 Hg5 Hw2)
        | (refine wpList_store_blk rfl 61 (.tmp 5) (.tmp 43) rfl g5 _ _ 61 (blk_of Hg5 Hw2) rfl rfl (info_32 HFl) (size_32 HFl) (u8s_all _) ?_; intro w3 Hb3 Ho3))
      have Hbel3 := Lib.hid (bel_next Hb1 Hg5 Hw2 Ho3)
      have HS3 := Lib.hid ((HL.out).st.below Hbel3.out)
      have HRM : Hid (B1.length + 1 ≤ 16384) := Lib.hid (by rw [← HN1.out]; exact hroom)
      clear x0
      refine push_any 7 45 0 5 (by kernel_rfl) rfl rfl rfl rfl rfl rfl rfl rfl rfl rfl rfl (by decide) (by decide) (show 54 < 58 from by decide) (fun _ _ _ _ _ h => h) p rfl g5 rfl HS3.out F HFl.out HFb.out Hb3.out HRM.out ?_
      intro A' c' w4 own4 z0 z1 z2 z3 z4 z5 z6 z7 z8 z9 HS4 Hown4 Hchg4
      simp only [Nat.reduceAdd, Act.put, List.setIfInBounds_toArray, List.set_cons_zero, List.set_cons_succ]
      have HF' : Hid (F = blk (B1.length + 1) (r.take 26) (decide (r.length ≤ 26))) := Lib.hid (by rw [HF.out, HN1.out])
      have HQ' : Hid (q = min r.length 26) := Lib.hid (by rw [Hq.out, HM1.out])
      have HN := Lib.hid ((HL.out).next HR0.out HF'.out HS4.out (own_next Hbel3 Hown4) (chg_next Hbel3 Hchg4) HQ'.out)
      have hqi1 : (q : Int) ≤ m1 := by omega
      have hqi2 : (q : Int) ≤ c2 := by omega
      by_cases hcq : c2 = q
      all_goals
        go_wp2
        go_roundw
        case rel => exact ⟨_, _, _, _, _, _, _, by rw [List.length_drop, ← HM1.out]; first | rw [if_pos hcq, hcq, Nat.sub_self] | rw [if_neg hcq], HN.out⟩
        case measure => show m1 - q < m1; omega
    · have hr0 : r = [] := List.eq_nil_of_length_eq_zero (by rw [← HM1.out]; omega)
      have HE : Hid (B1 = B ++ brec B.length b) := Lib.hid (by rw [← (HL.out).tot, hr0, brec_nil, List.append_nil])
      clear hr0
      go_wp2
      go_ret
      exact ⟨rfl, own1, by rw [← HE.out]; exact ⟨A1, c1, (HL.out).st⟩, (HL.out).own_, (HL.out).chg⟩
theorem append_bad (p : Nat) (own : Option Nat) (B : List (List Int)) (sy : Nat) (A0 : Option Addr) (m c0 : Nat) (w : World) (h : m < 1 ∨ 4096 < m) :
    Calls Try.prog 19 #[.pointer (some ⟨p, 0, none⟩), .slice A0 m c0] w (fun e w' => e = .returned (.int .i64 1) ∧ w = w') := by
  by_cases h1 : m < 1
  · have h1' : (m : Int) < 1 := by omega
    clear h
    go_enter Try.func19, Try.ntmps19
    go_wp2
    go_ret
    exact ⟨rfl, rfl⟩
  · have h1' : ¬ (m : Int) < 1 := by omega
    have h2' : 4096 < (m : Int) := by omega
    clear h
    go_enter Try.func19, Try.ntmps19
    go_wp2
    go_ret
    exact ⟨rfl, rfl⟩
theorem append_full_ (p : Nat) (own : Option Nat) (B : List (List Int)) (sy : Nat) (A0 : Option Addr) (m c0 : Nat) (w : World) (h : St w p own B sy) (h1 : 1 ≤ m) (h2 : m ≤ 4096) (h3 : 16384 < B.length + (m + 25) / 26) :
    Calls Try.prog 19 #[.pointer (some ⟨p, 0, none⟩), .slice A0 m c0] w (fun e w' => e = .returned (.int .i64 18) ∧ w = w') := by
  obtain ⟨A, c, h⟩ := h
  have x0 := h.box.cell 0
  have hl := h.len
  simp at x0
  clear h
  generalize B.length = N at *
  have h1' : ¬ (m : Int) < 1 := by omega
  have h2' : ¬ 4096 < (m : Int) := by omega
  have h4' : 16384 < (N : Int) + ((m : Int) + 26 - 1) / 26 := by omega
  go_enter Try.func19, Try.ntmps19
  go_wp2
  go_ret
  exact ⟨rfl, rfl⟩
end Go.Proofs.Ytabnlnhnefjebaa
