/-
  Chapter 10: the walk of the law ShiftAssigns. The memory is that of the given program; no conditions.
-/
import Derived.Test.YtagkdkkpgcolkaaRegS
import Derived.Test.YtagkdkkpgcolkaaSh26c
import Derived.Test.YtagkdkkpgcolkaaSh27
import Derived.Test.YtagkdkkpgcolkaaSh16
namespace Go.Proofs.Ytagkdkkpgcolkaa
open Go.RowKit
set_option linter.unusedVariables false
set_option linter.unusedSimpArgs false
/-- the orders: a step (1: the only one that can come up; 0: taken ahead, read before the late step; 2: taken ahead, reads no memory), or a fork -/
inductive PU where
  | nil
  | cons (i b : Nat) (p : PU)
  | fork (i j : Nat) (p q : PU)
def PU.len : PU → Nat
  | .nil => 0
  | .cons _ _ p => p.len + 1
  | .fork _ _ p _ => p.len + 1
def ordU (ops : Array Oper) (Lt : Nat) : PU → Array Bool → Bool
  | .nil, L => Region.ready .any ops L == []
  | .cons i b p, L => (if b == 1 then Region.ready .any ops L == [i] else Region.free .any ops L i && (Region.ready .any ops L).contains i && (b == 2 || reqs ops ops.size i Lt) && i != Lt) && ordU ops Lt p (L.setIfInBounds i true)
  | .fork i j p q, L => Region.ready .any ops L == [i, j] && p.len == q.len && i != Lt && j != Lt && ordU ops Lt p (L.setIfInBounds i true) && ordU ops Lt q (L.setIfInBounds j true)
def regU (ops : Array Oper) (Lt : Nat) (p : PU) : Bool := Region.noSelect ops && (p.len == ops.size) && ordU ops Lt p (Array.replicate ops.size false)
structure WU (P : Program) (ops : Array Oper) (Q : Exit → Act → World → Prop) (Lt : Nat) (w0 : World) (l : PU) (a : Act) (w : World) : Prop where
  out : Region.noSelect ops = true → (∀ c a (d : Option Tmp) v w, Q (.panic c) (a.put d v) w → Q (.panic c) a w) → Bel w0 w → ∀ L, Closed ops L → L.getD Lt false = false → ordU ops Lt l L = true → wpAnyL P ops Q (Bel w0) Lt l.len L a w
/-- behind the late step -/
structure WV (P : Program) (ops : Array Oper) (Q : Exit → Act → World → Prop) (Lt : Nat) (l : PU) (a : Act) (w : World) : Prop where
  out : ∀ L, ordU ops Lt l L = true → wpAny P .any ops Q l.len L a w
section
variable {P : Program} {ops : Array Oper} {Q : Exit → Act → World → Prop} {Lt : Nat} {l l' : PU} {a : Act} {w0 w w' w'' : World} {i : Nat} {o : Oper} {d : Option Tmp} {v : Value}
theorem u_take (hi : ops[i]? = some o) (hw : Region.wanted o (yielded ops a.tmps) = true) (hd : o.dst = d) (hx : ∀ W, Bel w0 W → (execOp a.eval o).run P W = .ok (.value v) W) (h : WU P ops Q Lt w0 l (a.put d v) w) : WU P ops Q Lt w0 (.cons i 0 l) a w := by
  subst hd
  refine ⟨fun hs hQ hB L hc hl hL => ?_⟩
  unfold ordU at hL
  rw [if_neg (by decide)] at hL
  simp only [Bool.and_eq_true, bne_iff_ne, show ((0 : Nat) == 2) = false from rfl, Bool.false_or] at hL
  obtain ⟨⟨⟨⟨k1, k2⟩, k3⟩, k4⟩, k5⟩ := hL
  exact wpAnyL_first hi (Region.noSelect_spec hs) (fun c a w => hQ c a _ _ w) k4 k3 _ L a w hc (Region.free_spec hi k1) (by simpa using k2) (.inl ⟨hw, hx⟩) hB
    (h.out hs hQ hB _ (closed_set hc (by simpa using k2)) (by rw [getD_set_far k4]; exact hl) k5)
theorem u_free (hi : ops[i]? = some o) (hw : Region.wanted o (yielded ops a.tmps) = true) (hd : o.dst = d) (hx : ∀ W, (execOp a.eval o).run P W = .ok (.value v) W) (h : WU P ops Q Lt w0 l (a.put d v) w) : WU P ops Q Lt w0 (.cons i 2 l) a w := by
  subst hd
  refine ⟨fun hs hQ hB L hc hl hL => ?_⟩
  unfold ordU at hL
  rw [if_neg (by decide)] at hL
  simp only [Bool.and_eq_true, bne_iff_ne] at hL
  obtain ⟨⟨⟨⟨k1, k2⟩, _⟩, k4⟩, k5⟩ := hL
  exact wpAnyL_free hi (Region.noSelect_spec hs) (fun c a w => hQ c a _ _ w) k4 _ L a w (Region.free_spec hi k1) (by simpa using k2) (.inl ⟨hw, fun W _ => hx W⟩) (fun _ => hB)
    (h.out hs hQ hB _ (closed_set hc (by simpa using k2)) (by rw [getD_set_far k4]; exact hl) k5)
theorem u_val (hi : ops[i]? = some o) (hne : (i == Lt) = false) (hw : Region.wanted o (yielded ops a.tmps) = true) (hd : o.dst = d) (hx : (execOp a.eval o).run P w = .ok (.value v) w') (hS : Bel w0 w') (h : WU P ops Q Lt w0 l (a.put d v) w') : WU P ops Q Lt w0 (.cons i 1 l) a w := by
  subst hd
  refine ⟨fun hs hQ hB L hc hl hL => ?_⟩
  unfold ordU at hL
  rw [if_pos (by decide)] at hL
  simp only [Bool.and_eq_true, beq_iff_eq] at hL
  have hne' : i ≠ Lt := by simpa using hne
  have hl' : (L.setIfInBounds i true).getD Lt false = false := by rw [getD_set_far hne']; exact hl
  refine ⟨fun h0 => (by rw [hL.1] at h0; cases h0), fun j hj => ?_⟩
  rw [hL.1] at hj
  obtain rfl : j = i := by simpa using hj
  refine wpOp_step hi (fun K' hK => ?_)
  rw [if_pos hw]
  unfold Oper.wp
  rw [hx, Oper.upon_value]
  exact hK _ _ ⟨fun _ => hS, h.out hs hQ hS _ (closed_set hc (mem_one hL.1)) hl' hL.2⟩
theorem u_late (hi : ops[Lt]? = some o) (hw : Region.wanted o (yielded ops a.tmps) = true) (hd : o.dst = d) (hx : (execOp a.eval o).run P w = .ok (.value v) w') (hlt : Lt < ops.size) (h : WV P ops Q Lt l (a.put d v) w') : WU P ops Q Lt w0 (.cons Lt 1 l) a w := by
  subst hd
  refine ⟨fun hs hQ hB L hc hl hL => ?_⟩
  unfold ordU at hL
  rw [if_pos (by decide)] at hL
  simp only [Bool.and_eq_true, beq_iff_eq] at hL
  have hin : (L.setIfInBounds Lt true).getD Lt false = true := by
    have h1 := mem_one hL.1
    unfold Region.ready at h1
    rw [List.mem_filter] at h1
    have h2 := h1.2
    simp only [Bool.and_eq_true, Bool.not_eq_true'] at h2
    have h3 := h2.1
    simp only [Array.getD_eq_getD_getElem?] at *
    cases hq : L[Lt]? with
    | none => rw [hq] at h3; simp at h3
    | some b =>
      have h4 := (Array.getElem?_eq_some_iff.1 hq).1
      simp [h4]
  refine ⟨fun h0 => (by rw [hL.1] at h0; cases h0), fun j hj => ?_⟩
  rw [hL.1] at hj
  obtain rfl : j = Lt := by simpa using hj
  refine wpOp_step hi (fun K' hK => ?_)
  rw [if_pos hw]
  unfold Oper.wp
  rw [hx, Oper.upon_value]
  exact hK _ _ ⟨fun e => (by rw [hin] at e; cases e), wpAnyL_of_any _ _ _ _ hin (h.out _ hL.2)⟩
theorem v_one (hi : ops[i]? = some o) (hw : Region.wanted o (yielded ops a.tmps) = true) (hd : o.dst = d) (hx : (execOp a.eval o).run P w = .ok (.value v) w') (h : WV P ops Q Lt l (a.put d v) w') : WV P ops Q Lt (.cons i 1 l) a w := by
  refine ⟨fun L hL => ?_⟩
  unfold ordU at hL
  rw [if_pos (by decide)] at hL
  simp only [Bool.and_eq_true, beq_iff_eq] at hL
  exact (a_one hL.1 hi hw hd hx ⟨h.out _ hL.2⟩).out
theorem v_unit (hi : ops[i]? = some o) (hw : Region.wanted o (yielded ops a.tmps) = true) (hd : o.dst = none) (hx : (execOp a.eval o).run P w = .ok .skip w') (h : WV P ops Q Lt l a w') : WV P ops Q Lt (.cons i 1 l) a w := by
  refine ⟨fun L hL => ?_⟩
  unfold ordU at hL
  rw [if_pos (by decide)] at hL
  simp only [Bool.and_eq_true, beq_iff_eq] at hL
  exact (a_unit hL.1 hi hw hd hx ⟨h.out _ hL.2⟩).out
theorem v_done (h : Q .normal a w) : WV P ops Q Lt .nil a w := ⟨fun L hL => by
  unfold ordU at hL
  exact wpAny_done (beq_iff_eq.1 hL) h _⟩
/-- two steps that make memory, whichever comes first -/
theorem u_fork2 {j : Nat} {o' : Oper} {d' : Option Tmp} {v' : Value} (hi : ops[i]? = some o) (hw : Region.wanted o (yielded ops a.tmps) = true) (hd : o.dst = d) (hx : (execOp a.eval o).run P w = .ok (.value v) w'') (hS : Bel w0 w'')
    (hj : ops[j]? = some o') (hw' : Region.wanted o' (yielded ops a.tmps) = true) (hd' : o'.dst = d') (hx' : (execOp a.eval o').run P w = .ok (.value v') w') (hS' : Bel w0 w')
    (h : WU P ops Q Lt w0 l (a.put d v) w'') (h' : WU P ops Q Lt w0 l' (a.put d' v') w') : WU P ops Q Lt w0 (.fork i j l l') a w := by
  subst hd hd'
  refine ⟨fun hs hQ hB L hc hl hL => ?_⟩
  unfold ordU at hL
  simp only [Bool.and_eq_true, beq_iff_eq, bne_iff_ne] at hL
  obtain ⟨⟨⟨⟨⟨k1, k2⟩, n1⟩, n2⟩, k3⟩, k4⟩ := hL
  have m1 : i ∈ Region.ready .any ops L := by rw [k1]; simp
  have m2 : j ∈ Region.ready .any ops L := by rw [k1]; simp
  refine ⟨fun h0 => (by rw [k1] at h0; cases h0), fun x hx0 => ?_⟩
  rw [k1] at hx0
  rcases (show x = i ∨ x = j by simpa using hx0) with rfl | rfl
  · refine wpOp_step hi (fun K' hK => ?_)
    rw [if_pos hw]
    unfold Oper.wp
    rw [hx, Oper.upon_value]
    exact hK _ _ ⟨fun _ => hS, h.out hs hQ hS _ (closed_set hc m1) (by rw [getD_set_far n1]; exact hl) k3⟩
  · refine wpOp_step hj (fun K' hK => ?_)
    rw [if_pos hw']
    unfold Oper.wp
    rw [hx', Oper.upon_value]
    refine hK _ _ ⟨fun _ => hS', ?_⟩
    have := h'.out hs hQ hS' _ (closed_set hc m2) (by rw [getD_set_far n2]; exact hl) k4
    rw [← k2] at this
    exact this
theorem wp_region_WU {id : Nat} (hm : P.follows .mixedOrders = true) (hok : regU ops Lt l = true) (hQ : ∀ c a (d : Nat) v w, Q (.panic c) (a.put (some d) v) w → Q (.panic c) a w) (h : WU P ops Q Lt w.drew l a w.drew) : (Code.region id ops true).wp P Q a w := by
  unfold regU at hok
  simp only [Bool.and_eq_true, beq_iff_eq] at hok
  have := h.out hok.1.1 (fun c a d v w h => by
    cases d with
    | none => exact h
    | some d => exact hQ c a d v w h) (Bel.refl _) _ (closed_start ops ops.size) (rep_off _ _) hok.2
  rw [hok.1.2] at this
  exact wp_region_any hm (wpAny_of_L _ _ _ _ this)
end
end Go.Proofs.Ytagkdkkpgcolkaa
namespace Go.Proofs.Ytagkdkkpgcolkaa
open Go.RowKit
set_option linter.unusedVariables false
set_option linter.unusedSimpArgs false
theorem x_binA_ {P : Program} {o : Oper} {a : Act} {w : World} {b : BinOp} {x y : Operand} {t t' : TypeId} {us vs : Array Value} {r : Value} (ho : o.op = .binOp b t x y t') (hx : a.eval x = .agg us) (hy : a.eval y = .agg vs) (hg : P.eqGuardType P.depth t = false) (hr : (binOp b t (.agg us) (.agg vs)).run P w = .ok r w) : (execOp a.eval o).run P w = .ok (.value r) w := by
  unfold execOp
  have hg : (eqGuard b t x y (.agg us) (.agg vs)).run P w = .ok () w := by cases b <;> simp [eqGuard, go_sem, hg]
  simp only [ho, hx, hy, Sem.run_bind, hg, hr, Sem.run_pure, Result.andThen_ok]
theorem guard38_ : Try.prog.eqGuardType Try.prog.depth 38 = false := by kernel_rfl
theorem neq38F (w : World) (a b : Int) : (binOp .neq 38 (.agg #[.int .i64 a, .int .i64 b]) (.agg #[.int .i64 a, .int .i64 b])).run Try.prog w = .ok (.bool false) w := by
  have h : (Op.equal 38 (.agg #[.int .i64 a, .int .i64 b]) (.agg #[.int .i64 a, .int .i64 b])).run Try.prog w = .ok true w := run_eqIvSame a b w
  simp [binOp, go_sem, h]
theorem len56 (w : World) (ty : TypeId) (A : Option Addr) (n c : Nat) : (Builtin.len_ #[56] ty #[.slice A n c]).run Try.prog w = .ok (.int .i64 n) w := by
  exact run_len_slice (P := Try.prog) w 56 ty A n c (by kernel_rfl)
theorem run_idx56_ (w : World) (g off n c i : Nat) (hi : i < n) : (Instr.indexAt 56 (.slice (some ⟨g, off, none⟩) n c) (.int .i64 i)).run Try.prog w = .ok (.pointer (some ⟨g, off + i * 2, none⟩)) w := by
  have hu : Try.prog.underlying 56 = some (.slice 38) := by kernel_rfl
  have hsz : (sizeOf 38).run Try.prog w = .ok 2 w := by kernel_rfl
  have h1 : (i : Int) < (n : Int) := by omega
  simp [Instr.indexAt, go_sem, hu, hsz, h1, Go.WideShapes.add_plain]
  intro h; omega
theorem store56 {w : World} {g i : Nat} {A : Option Addr} {n c : Nat} {v : Value} (h : w.cell? ⟨g, i, none⟩ = some v) (hf : w.frozen? ⟨g, i, none⟩ = false) : (storeVar 56 ⟨g, i, none⟩ (.slice A n c)).run Try.prog w = .ok () (w.setCell ⟨g, i, none⟩ (.slice A n c)) := by
  have hsz : (sizeOf 56).run Try.prog w = .ok 1 w := by kernel_rfl
  have hc : (Value.slice A n c).cells = #[.slice A n c] := rfl
  unfold storeVar
  rw [Sem.run_bind, hsz, Result.andThen_ok, hc]
  have ha : (⟨g, i, none⟩ : Addr).add 0 = ⟨g, i, none⟩ := rfl
  simp [storeCells, ha, h, hf, go_sem]
theorem run_one56 (w : World) (u v : Value) : (Instr.buildSlice 56 1 #[(0, .agg #[u, v])]).run Try.prog w = .ok (.slice (some ⟨w.heap.size, 0, none⟩) 1 1) (w.alloc (.cells #[u, v] 38)) := by kernel_rfl
theorem build38 (w : World) (f t : Int) : (Instr.build 38 #[(0, .int .i64 f), (1, .int .i64 t)]).run Try.prog w = .ok (.agg #[.int .i64 f, .int .i64 t]) w := by kernel_rfl
theorem x_empty56 {o : Oper} {a : Act} {w : World} (ho : o.op = .buildSlice 56 0 #[]) : (execOp a.eval o).run Try.prog w = .ok (.value (.slice (some ⟨w.heap.size, 0, none⟩) 0 0)) (w.alloc (.cells #[] 38)) := by
  have h : (execOp a.eval { o with op := .buildSlice 56 0 #[] }).run Try.prog w = .ok (.value (.slice (some ⟨w.heap.size, 0, none⟩) 0 0)) (w.alloc (.cells #[] 38)) := by kernel_rfl
  rw [← ho] at h
  exact h
set_option maxHeartbeats 1600000 in
theorem same6 {ops : Array Oper} {Q : Exit → Act → World → Prop} {a : Act} {w : World} (id : Nat) {y0 y1 y2 y3 y4 y5 y6 y7 y8 y9 y10 y11 y12 y13 y14 y15 y16 y17 y18 y19 y20 y21 y22 y23 y24 y25 y26 y27 y28 y29 y30 y31 y32 y33 y34 y35 y36 y37 y38 : TypeId} {q0 q1 q2 q3 q4 q5 q6 q7 q8 q9 q10 q11 q12 q13 q14 q15 q16 q17 q18 q19 q20 q21 q22 q23 q24 q25 q26 q27 q28 q29 q30 q31 q32 q33 q34 q35 q36 q37 q38 : String} {f0 f1 f2 f3 f4 f5 f6 f7 f8 f9 f10 f11 f12 f13 f14 f15 f16 f17 f18 f19 f20 f21 f22 f23 f24 f25 f26 f27 f28 f29 f30 f31 f32 f33 f34 f35 f36 f37 f38 : Array Edge} (hok : regT ops (.cons 0 true (.cons 1 true (.cons 2 true (.cons 3 true (.cons 4 true (.cons 5 true (.cons 6 true (.cons 7 true (.cons 8 true (.cons 9 true (.cons 10 true (.cons 11 true (.cons 12 true (.cons 13 true (.cons 14 true (.cons 15 true (.cons 16 true (.cons 17 true (.cons 18 true (.cons 19 true (.cons 20 true (.cons 21 true (.cons 22 true (.cons 23 true (.cons 24 true (.cons 25 true (.cons 26 true (.cons 27 true (.cons 28 true (.cons 29 true (.cons 30 true (.cons 31 true (.cons 32 true (.cons 33 true (.cons 34 true (.cons 35 true (.cons 36 true (.cons 37 true (.cons 38 true .nil))))))))))))))))))))))))))))))))))))))) = true)
    (h0 : ops[0]? = some ⟨(some 21), .move (.tmp 0), y0, q0, f0, none⟩) (h1 : ops[1]? = some ⟨(some 22), .move (.tmp 5), y1, q1, f1, none⟩) (h2 : ops[2]? = some ⟨(some 23), .indexAddr 49 (.tmp 21) (.tmp 22), y2, q2, f2, none⟩) (h3 : ops[3]? = some ⟨(some 24), .fieldAddr 55 (.tmp 23) 0, y3, q3, f3, none⟩) (h4 : ops[4]? = some ⟨(some 25), .load 3 (.tmp 24), y4, q4, f4, none⟩) (h5 : ops[5]? = some ⟨(some 26), .move (.tmp 1), y5, q5, f5, none⟩) (h6 : ops[6]? = some ⟨(some 27), .move (.tmp 5), y6, q6, f6, none⟩) (h7 : ops[7]? = some ⟨(some 28), .indexAddr 49 (.tmp 26) (.tmp 27), y7, q7, f7, none⟩) (h8 : ops[8]? = some ⟨(some 29), .fieldAddr 55 (.tmp 28) 0, y8, q8, f8, none⟩) (h9 : ops[9]? = some ⟨(some 30), .load 3 (.tmp 29), y9, q9, f9, none⟩) (h10 : ops[10]? = some ⟨(some 31), .binOp .neq 3 (.tmp 25) (.tmp 30) 3, y10, q10, f10, none⟩) (h11 : ops[11]? = some ⟨(some 32), .move (.tmp 31), y11, q11, f11, none⟩) (h12 : ops[12]? = some ⟨(some 33), .move (.tmp 0), y12, q12, f12, (some (11, false))⟩) (h13 : ops[13]? = some ⟨(some 34), .move (.tmp 5), y13, q13, f13, (some (11, false))⟩) (h14 : ops[14]? = some ⟨(some 35), .indexAddr 49 (.tmp 33) (.tmp 34), y14, q14, f14, (some (11, false))⟩) (h15 : ops[15]? = some ⟨(some 36), .fieldAddr 55 (.tmp 35) 1, y15, q15, f15, (some (11, false))⟩) (h16 : ops[16]? = some ⟨(some 37), .load 3 (.tmp 36), y16, q16, f16, (some (11, false))⟩) (h17 : ops[17]? = some ⟨(some 38), .move (.tmp 1), y17, q17, f17, (some (11, false))⟩) (h18 : ops[18]? = some ⟨(some 39), .move (.tmp 5), y18, q18, f18, (some (11, false))⟩) (h19 : ops[19]? = some ⟨(some 40), .indexAddr 49 (.tmp 38) (.tmp 39), y19, q19, f19, (some (11, false))⟩) (h20 : ops[20]? = some ⟨(some 41), .fieldAddr 55 (.tmp 40) 1, y20, q20, f20, (some (11, false))⟩) (h21 : ops[21]? = some ⟨(some 42), .load 3 (.tmp 41), y21, q21, f21, (some (11, false))⟩) (h22 : ops[22]? = some ⟨(some 43), .binOp .neq 3 (.tmp 37) (.tmp 42) 3, y22, q22, f22, (some (11, false))⟩) (h23 : ops[23]? = some ⟨(some 44), .pick (.tmp 32) (.const (.bool true)) (.tmp 43), y23, q23, f23, none⟩) (h24 : ops[24]? = some ⟨(some 45), .move (.tmp 44), y24, q24, f24, none⟩) (h25 : ops[25]? = some ⟨(some 46), .move (.tmp 0), y25, q25, f25, (some (24, false))⟩) (h26 : ops[26]? = some ⟨(some 47), .move (.tmp 5), y26, q26, f26, (some (24, false))⟩) (h27 : ops[27]? = some ⟨(some 48), .indexAddr 49 (.tmp 46) (.tmp 47), y27, q27, f27, (some (24, false))⟩) (h28 : ops[28]? = some ⟨(some 49), .fieldAddr 55 (.tmp 48) 2, y28, q28, f28, (some (24, false))⟩) (h29 : ops[29]? = some ⟨(some 50), .load 45 (.tmp 49), y29, q29, f29, (some (24, false))⟩) (h30 : ops[30]? = some ⟨(some 51), .call { callee := .builtin .len, args := #[.tmp 50], argTypes := #[45] }, y30, q30, f30, (some (24, false))⟩) (h31 : ops[31]? = some ⟨(some 52), .move (.tmp 1), y31, q31, f31, (some (24, false))⟩) (h32 : ops[32]? = some ⟨(some 53), .move (.tmp 5), y32, q32, f32, (some (24, false))⟩) (h33 : ops[33]? = some ⟨(some 54), .indexAddr 49 (.tmp 52) (.tmp 53), y33, q33, f33, (some (24, false))⟩) (h34 : ops[34]? = some ⟨(some 55), .fieldAddr 55 (.tmp 54) 2, y34, q34, f34, (some (24, false))⟩) (h35 : ops[35]? = some ⟨(some 56), .load 45 (.tmp 55), y35, q35, f35, (some (24, false))⟩) (h36 : ops[36]? = some ⟨(some 57), .call { callee := .builtin .len, args := #[.tmp 56], argTypes := #[45] }, y36, q36, f36, (some (24, false))⟩) (h37 : ops[37]? = some ⟨(some 58), .binOp .neq 3 (.tmp 51) (.tmp 57) 3, y37, q37, f37, (some (24, false))⟩) (h38 : ops[38]? = some ⟨(some 59), .pick (.tmp 45) (.const (.bool true)) (.tmp 58), y38, q38, f38, none⟩)
    (hsz : 118 ≤ a.tmps.size) (hQ : ∀ c a (d : Nat) v w, Q (.panic c) (a.put (some d) v) w → Q (.panic c) a w) {gD gE n c ce i m cb cb2 : Nat} {s d : Int} {pB pE : Option Addr} (e0 : a.eval (.tmp 0) = (.slice (some ⟨gD, 0, none⟩) n c)) (e1 : a.eval (.tmp 1) = (.slice (some ⟨gE, 0, none⟩) n ce)) (e5 : a.eval (.tmp 5) = (.int .i64 i)) (hi : i < n) (hs0 : w.cell? ⟨gD, i * 3, none⟩ = some (.int .i64 s)) (hd0 : w.cell? ⟨gD, i * 3 + 1, none⟩ = some (.int .i64 d)) (hp0 : w.cell? ⟨gD, i * 3 + 2, none⟩ = some (.slice pB m cb)) (hs1 : w.cell? ⟨gE, i * 3, none⟩ = some (.int .i64 s)) (hd1 : w.cell? ⟨gE, i * 3 + 1, none⟩ = some (.int .i64 d)) (hp1 : w.cell? ⟨gE, i * 3 + 2, none⟩ = some (.slice pE m cb2))
    (K : ∀ z0 z1 z2 z3 z4 z5 z6 z7 z8 z9 z10 z11 z12 z13 z14 z15 z16 z17 z18 z19 z20 z21 z22 z23 z24 z25 z26 z27 z28 z29 z30 z31 z32 z33 z34 z35 z36 z37 w', Hid (Bel w w') → Q .normal (((((((((((((((((((((((((((((((((((((((a.put (some 21) z0).put (some 22) z1).put (some 23) z2).put (some 24) z3).put (some 25) z4).put (some 26) z5).put (some 27) z6).put (some 28) z7).put (some 29) z8).put (some 30) z9).put (some 31) z10).put (some 32) z11).put (some 33) z12).put (some 34) z13).put (some 35) z14).put (some 36) z15).put (some 37) z16).put (some 38) z17).put (some 39) z18).put (some 40) z19).put (some 41) z20).put (some 42) z21).put (some 43) z22).put (some 44) z23).put (some 45) z24).put (some 46) z25).put (some 47) z26).put (some 48) z27).put (some 49) z28).put (some 50) z29).put (some 51) z30).put (some 52) z31).put (some 53) z32).put (some 54) z33).put (some 55) z34).put (some 56) z35).put (some 57) z36).put (some 58) z37).put (some 59) (.bool false)) w') : (Code.region id ops true).wp Try.prog Q a w := by
  have kc : ∀ {p : Addr} {v : Value}, w.cell? p = some v → ∀ W, Bel w.drew W → W.cell? p = some v := fun {p} {v} h W hW => (hW.cell (p := p) (World.block_lt_of_cell? w.drew _ h)).trans h
  have hB0 := Bel.drew w
  refine wp_region_WN (by kernel_rfl) hok hQ ?_
  refine n_take (i := 0) (d := some 21) (v := (.slice (some ⟨gD, 0, none⟩) n c)) h0 (wanted_none rfl) rfl (fun W hW => x_move rfl e0) ?_
  refine n_take (i := 1) (d := some 22) (v := (.int .i64 i)) h1 (wanted_none rfl) rfl (fun W hW => x_move rfl (pO (by decide) e5)) ?_
  refine n_take (i := 2) (d := some 23) (v := (.pointer (some ⟨gD, i * 3, none⟩))) h2 (wanted_none rfl) rfl (fun W hW => x_index rfl (pO (by decide) (pS hsz (by decide))) (pS (pZ hsz) (by decide)) (run_idx49 W gD n c i hi)) ?_
  refine n_take (i := 3) (d := some 24) (v := (.pointer (some ⟨gD, i * 3, none⟩))) h3 (wanted_none rfl) rfl (fun W hW => x_field rfl (pS (pZ (pZ hsz)) (by decide)) (field55a W gD _)) ?_
  refine n_take (i := 4) (d := some 25) (v := (.int .i64 s)) h4 (wanted_none rfl) rfl (fun W hW => exec_load rfl (pS (pZ (pZ (pZ hsz))) (by decide)) (load3 (kc hs0 W hW))) ?_
  refine n_take (i := 5) (d := some 26) (v := (.slice (some ⟨gE, 0, none⟩) n ce)) h5 (wanted_none rfl) rfl (fun W hW => x_move rfl (pO (by decide) (pO (by decide) (pO (by decide) (pO (by decide) (pO (by decide) e1)))))) ?_
  refine n_take (i := 6) (d := some 27) (v := (.int .i64 i)) h6 (wanted_none rfl) rfl (fun W hW => x_move rfl (pO (by decide) (pO (by decide) (pO (by decide) (pO (by decide) (pO (by decide) (pO (by decide) e5))))))) ?_
  refine n_take (i := 7) (d := some 28) (v := (.pointer (some ⟨gE, i * 3, none⟩))) h7 (wanted_none rfl) rfl (fun W hW => x_index rfl (pO (by decide) (pS (pZ (pZ (pZ (pZ (pZ hsz))))) (by decide))) (pS (pZ (pZ (pZ (pZ (pZ (pZ hsz)))))) (by decide)) (run_idx49 W gE n ce i hi)) ?_
  refine n_take (i := 8) (d := some 29) (v := (.pointer (some ⟨gE, i * 3, none⟩))) h8 (wanted_none rfl) rfl (fun W hW => x_field rfl (pS (pZ (pZ (pZ (pZ (pZ (pZ (pZ hsz))))))) (by decide)) (field55a W gE _)) ?_
  refine n_take (i := 9) (d := some 30) (v := (.int .i64 s)) h9 (wanted_none rfl) rfl (fun W hW => exec_load rfl (pS (pZ (pZ (pZ (pZ (pZ (pZ (pZ (pZ hsz)))))))) (by decide)) (load3 (kc hs1 W hW))) ?_
  refine n_take (i := 10) (d := some 31) (v := (.bool false)) h10 (wanted_none rfl) rfl (fun W hW => x_bin rfl (pO (by decide) (pO (by decide) (pO (by decide) (pO (by decide) (pO (by decide) (pS (pZ (pZ (pZ (pZ hsz)))) (by decide))))))) (pS (pZ (pZ (pZ (pZ (pZ (pZ (pZ (pZ (pZ hsz))))))))) (by decide)) (neq_intF W _ _ rfl)) ?_
  refine n_take (i := 11) (d := some 32) (v := (.bool false)) h11 (wanted_none rfl) rfl (fun W hW => x_move rfl (pS (pZ (pZ (pZ (pZ (pZ (pZ (pZ (pZ (pZ (pZ hsz)))))))))) (by decide))) ?_
  refine n_take (i := 12) (d := some 33) (v := (.slice (some ⟨gD, 0, none⟩) n c)) h12 (wanted_yes rfl h11 rfl (pS (pZ (pZ (pZ (pZ (pZ (pZ (pZ (pZ (pZ (pZ (pZ hsz))))))))))) (by decide))) rfl (fun W hW => x_move rfl (pO (by decide) (pO (by decide) (pO (by decide) (pO (by decide) (pO (by decide) (pO (by decide) (pO (by decide) (pO (by decide) (pO (by decide) (pO (by decide) (pO (by decide) (pO (by decide) e0))))))))))))) ?_
  refine n_take (i := 13) (d := some 34) (v := (.int .i64 i)) h13 (wanted_yes rfl h11 rfl (pO (by decide) (pS (pZ (pZ (pZ (pZ (pZ (pZ (pZ (pZ (pZ (pZ (pZ hsz))))))))))) (by decide)))) rfl (fun W hW => x_move rfl (pO (by decide) (pO (by decide) (pO (by decide) (pO (by decide) (pO (by decide) (pO (by decide) (pO (by decide) (pO (by decide) (pO (by decide) (pO (by decide) (pO (by decide) (pO (by decide) (pO (by decide) e5)))))))))))))) ?_
  refine n_take (i := 14) (d := some 35) (v := (.pointer (some ⟨gD, i * 3, none⟩))) h14 (wanted_yes rfl h11 rfl (pO (by decide) (pO (by decide) (pS (pZ (pZ (pZ (pZ (pZ (pZ (pZ (pZ (pZ (pZ (pZ hsz))))))))))) (by decide))))) rfl (fun W hW => x_index rfl (pO (by decide) (pS (pZ (pZ (pZ (pZ (pZ (pZ (pZ (pZ (pZ (pZ (pZ (pZ hsz)))))))))))) (by decide))) (pS (pZ (pZ (pZ (pZ (pZ (pZ (pZ (pZ (pZ (pZ (pZ (pZ (pZ hsz))))))))))))) (by decide)) (run_idx49 W gD n c i hi)) ?_
  refine n_take (i := 15) (d := some 36) (v := (.pointer (some ⟨gD, i * 3 + 1, none⟩))) h15 (wanted_yes rfl h11 rfl (pO (by decide) (pO (by decide) (pO (by decide) (pS (pZ (pZ (pZ (pZ (pZ (pZ (pZ (pZ (pZ (pZ (pZ hsz))))))))))) (by decide)))))) rfl (fun W hW => x_field rfl (pS (pZ (pZ (pZ (pZ (pZ (pZ (pZ (pZ (pZ (pZ (pZ (pZ (pZ (pZ hsz)))))))))))))) (by decide)) (field55c W gD _)) ?_
  refine n_take (i := 16) (d := some 37) (v := (.int .i64 d)) h16 (wanted_yes rfl h11 rfl (pO (by decide) (pO (by decide) (pO (by decide) (pO (by decide) (pS (pZ (pZ (pZ (pZ (pZ (pZ (pZ (pZ (pZ (pZ (pZ hsz))))))))))) (by decide))))))) rfl (fun W hW => exec_load rfl (pS (pZ (pZ (pZ (pZ (pZ (pZ (pZ (pZ (pZ (pZ (pZ (pZ (pZ (pZ (pZ hsz))))))))))))))) (by decide)) (load3 (kc hd0 W hW))) ?_
  refine n_take (i := 17) (d := some 38) (v := (.slice (some ⟨gE, 0, none⟩) n ce)) h17 (wanted_yes rfl h11 rfl (pO (by decide) (pO (by decide) (pO (by decide) (pO (by decide) (pO (by decide) (pS (pZ (pZ (pZ (pZ (pZ (pZ (pZ (pZ (pZ (pZ (pZ hsz))))))))))) (by decide)))))))) rfl (fun W hW => x_move rfl (pO (by decide) (pO (by decide) (pO (by decide) (pO (by decide) (pO (by decide) (pO (by decide) (pO (by decide) (pO (by decide) (pO (by decide) (pO (by decide) (pO (by decide) (pO (by decide) (pO (by decide) (pO (by decide) (pO (by decide) (pO (by decide) (pO (by decide) e1)))))))))))))))))) ?_
  refine n_take (i := 18) (d := some 39) (v := (.int .i64 i)) h18 (wanted_yes rfl h11 rfl (pO (by decide) (pO (by decide) (pO (by decide) (pO (by decide) (pO (by decide) (pO (by decide) (pS (pZ (pZ (pZ (pZ (pZ (pZ (pZ (pZ (pZ (pZ (pZ hsz))))))))))) (by decide))))))))) rfl (fun W hW => x_move rfl (pO (by decide) (pO (by decide) (pO (by decide) (pO (by decide) (pO (by decide) (pO (by decide) (pO (by decide) (pO (by decide) (pO (by decide) (pO (by decide) (pO (by decide) (pO (by decide) (pO (by decide) (pO (by decide) (pO (by decide) (pO (by decide) (pO (by decide) (pO (by decide) e5))))))))))))))))))) ?_
  refine n_take (i := 19) (d := some 40) (v := (.pointer (some ⟨gE, i * 3, none⟩))) h19 (wanted_yes rfl h11 rfl (pO (by decide) (pO (by decide) (pO (by decide) (pO (by decide) (pO (by decide) (pO (by decide) (pO (by decide) (pS (pZ (pZ (pZ (pZ (pZ (pZ (pZ (pZ (pZ (pZ (pZ hsz))))))))))) (by decide)))))))))) rfl (fun W hW => x_index rfl (pO (by decide) (pS (pZ (pZ (pZ (pZ (pZ (pZ (pZ (pZ (pZ (pZ (pZ (pZ (pZ (pZ (pZ (pZ (pZ hsz))))))))))))))))) (by decide))) (pS (pZ (pZ (pZ (pZ (pZ (pZ (pZ (pZ (pZ (pZ (pZ (pZ (pZ (pZ (pZ (pZ (pZ (pZ hsz)))))))))))))))))) (by decide)) (run_idx49 W gE n ce i hi)) ?_
  refine n_take (i := 20) (d := some 41) (v := (.pointer (some ⟨gE, i * 3 + 1, none⟩))) h20 (wanted_yes rfl h11 rfl (pO (by decide) (pO (by decide) (pO (by decide) (pO (by decide) (pO (by decide) (pO (by decide) (pO (by decide) (pO (by decide) (pS (pZ (pZ (pZ (pZ (pZ (pZ (pZ (pZ (pZ (pZ (pZ hsz))))))))))) (by decide))))))))))) rfl (fun W hW => x_field rfl (pS (pZ (pZ (pZ (pZ (pZ (pZ (pZ (pZ (pZ (pZ (pZ (pZ (pZ (pZ (pZ (pZ (pZ (pZ (pZ hsz))))))))))))))))))) (by decide)) (field55c W gE _)) ?_
  refine n_take (i := 21) (d := some 42) (v := (.int .i64 d)) h21 (wanted_yes rfl h11 rfl (pO (by decide) (pO (by decide) (pO (by decide) (pO (by decide) (pO (by decide) (pO (by decide) (pO (by decide) (pO (by decide) (pO (by decide) (pS (pZ (pZ (pZ (pZ (pZ (pZ (pZ (pZ (pZ (pZ (pZ hsz))))))))))) (by decide)))))))))))) rfl (fun W hW => exec_load rfl (pS (pZ (pZ (pZ (pZ (pZ (pZ (pZ (pZ (pZ (pZ (pZ (pZ (pZ (pZ (pZ (pZ (pZ (pZ (pZ (pZ hsz)))))))))))))))))))) (by decide)) (load3 (kc hd1 W hW))) ?_
  refine n_take (i := 22) (d := some 43) (v := (.bool false)) h22 (wanted_yes rfl h11 rfl (pO (by decide) (pO (by decide) (pO (by decide) (pO (by decide) (pO (by decide) (pO (by decide) (pO (by decide) (pO (by decide) (pO (by decide) (pO (by decide) (pS (pZ (pZ (pZ (pZ (pZ (pZ (pZ (pZ (pZ (pZ (pZ hsz))))))))))) (by decide))))))))))))) rfl (fun W hW => x_bin rfl (pO (by decide) (pO (by decide) (pO (by decide) (pO (by decide) (pO (by decide) (pS (pZ (pZ (pZ (pZ (pZ (pZ (pZ (pZ (pZ (pZ (pZ (pZ (pZ (pZ (pZ (pZ hsz)))))))))))))))) (by decide))))))) (pS (pZ (pZ (pZ (pZ (pZ (pZ (pZ (pZ (pZ (pZ (pZ (pZ (pZ (pZ (pZ (pZ (pZ (pZ (pZ (pZ (pZ hsz))))))))))))))))))))) (by decide)) (neq_intF W _ _ rfl)) ?_
  refine n_take (i := 23) (d := some 44) (v := (.bool false)) h23 (wanted_none rfl) rfl (fun W hW => x_pickF rfl (pO (by decide) (pO (by decide) (pO (by decide) (pO (by decide) (pO (by decide) (pO (by decide) (pO (by decide) (pO (by decide) (pO (by decide) (pO (by decide) (pO (by decide) (pS (pZ (pZ (pZ (pZ (pZ (pZ (pZ (pZ (pZ (pZ (pZ hsz))))))))))) (by decide))))))))))))) (pS (pZ (pZ (pZ (pZ (pZ (pZ (pZ (pZ (pZ (pZ (pZ (pZ (pZ (pZ (pZ (pZ (pZ (pZ (pZ (pZ (pZ (pZ hsz)))))))))))))))))))))) (by decide))) ?_
  refine n_take (i := 24) (d := some 45) (v := (.bool false)) h24 (wanted_none rfl) rfl (fun W hW => x_move rfl (pS (pZ (pZ (pZ (pZ (pZ (pZ (pZ (pZ (pZ (pZ (pZ (pZ (pZ (pZ (pZ (pZ (pZ (pZ (pZ (pZ (pZ (pZ (pZ hsz))))))))))))))))))))))) (by decide))) ?_
  refine n_take (i := 25) (d := some 46) (v := (.slice (some ⟨gD, 0, none⟩) n c)) h25 (wanted_yes rfl h24 rfl (pS (pZ (pZ (pZ (pZ (pZ (pZ (pZ (pZ (pZ (pZ (pZ (pZ (pZ (pZ (pZ (pZ (pZ (pZ (pZ (pZ (pZ (pZ (pZ (pZ hsz)))))))))))))))))))))))) (by decide))) rfl (fun W hW => x_move rfl (pO (by decide) (pO (by decide) (pO (by decide) (pO (by decide) (pO (by decide) (pO (by decide) (pO (by decide) (pO (by decide) (pO (by decide) (pO (by decide) (pO (by decide) (pO (by decide) (pO (by decide) (pO (by decide) (pO (by decide) (pO (by decide) (pO (by decide) (pO (by decide) (pO (by decide) (pO (by decide) (pO (by decide) (pO (by decide) (pO (by decide) (pO (by decide) (pO (by decide) e0)))))))))))))))))))))))))) ?_
  refine n_take (i := 26) (d := some 47) (v := (.int .i64 i)) h26 (wanted_yes rfl h24 rfl (pO (by decide) (pS (pZ (pZ (pZ (pZ (pZ (pZ (pZ (pZ (pZ (pZ (pZ (pZ (pZ (pZ (pZ (pZ (pZ (pZ (pZ (pZ (pZ (pZ (pZ (pZ hsz)))))))))))))))))))))))) (by decide)))) rfl (fun W hW => x_move rfl (pO (by decide) (pO (by decide) (pO (by decide) (pO (by decide) (pO (by decide) (pO (by decide) (pO (by decide) (pO (by decide) (pO (by decide) (pO (by decide) (pO (by decide) (pO (by decide) (pO (by decide) (pO (by decide) (pO (by decide) (pO (by decide) (pO (by decide) (pO (by decide) (pO (by decide) (pO (by decide) (pO (by decide) (pO (by decide) (pO (by decide) (pO (by decide) (pO (by decide) (pO (by decide) e5))))))))))))))))))))))))))) ?_
  refine n_take (i := 27) (d := some 48) (v := (.pointer (some ⟨gD, i * 3, none⟩))) h27 (wanted_yes rfl h24 rfl (pO (by decide) (pO (by decide) (pS (pZ (pZ (pZ (pZ (pZ (pZ (pZ (pZ (pZ (pZ (pZ (pZ (pZ (pZ (pZ (pZ (pZ (pZ (pZ (pZ (pZ (pZ (pZ (pZ hsz)))))))))))))))))))))))) (by decide))))) rfl (fun W hW => x_index rfl (pO (by decide) (pS (pZ (pZ (pZ (pZ (pZ (pZ (pZ (pZ (pZ (pZ (pZ (pZ (pZ (pZ (pZ (pZ (pZ (pZ (pZ (pZ (pZ (pZ (pZ (pZ (pZ hsz))))))))))))))))))))))))) (by decide))) (pS (pZ (pZ (pZ (pZ (pZ (pZ (pZ (pZ (pZ (pZ (pZ (pZ (pZ (pZ (pZ (pZ (pZ (pZ (pZ (pZ (pZ (pZ (pZ (pZ (pZ (pZ hsz)))))))))))))))))))))))))) (by decide)) (run_idx49 W gD n c i hi)) ?_
  refine n_take (i := 28) (d := some 49) (v := (.pointer (some ⟨gD, i * 3 + 2, none⟩))) h28 (wanted_yes rfl h24 rfl (pO (by decide) (pO (by decide) (pO (by decide) (pS (pZ (pZ (pZ (pZ (pZ (pZ (pZ (pZ (pZ (pZ (pZ (pZ (pZ (pZ (pZ (pZ (pZ (pZ (pZ (pZ (pZ (pZ (pZ (pZ hsz)))))))))))))))))))))))) (by decide)))))) rfl (fun W hW => x_field rfl (pS (pZ (pZ (pZ (pZ (pZ (pZ (pZ (pZ (pZ (pZ (pZ (pZ (pZ (pZ (pZ (pZ (pZ (pZ (pZ (pZ (pZ (pZ (pZ (pZ (pZ (pZ (pZ hsz))))))))))))))))))))))))))) (by decide)) (field55 W gD _)) ?_
  refine n_take (i := 29) (d := some 50) (v := (.slice pB m cb)) h29 (wanted_yes rfl h24 rfl (pO (by decide) (pO (by decide) (pO (by decide) (pO (by decide) (pS (pZ (pZ (pZ (pZ (pZ (pZ (pZ (pZ (pZ (pZ (pZ (pZ (pZ (pZ (pZ (pZ (pZ (pZ (pZ (pZ (pZ (pZ (pZ (pZ hsz)))))))))))))))))))))))) (by decide))))))) rfl (fun W hW => exec_load rfl (pS (pZ (pZ (pZ (pZ (pZ (pZ (pZ (pZ (pZ (pZ (pZ (pZ (pZ (pZ (pZ (pZ (pZ (pZ (pZ (pZ (pZ (pZ (pZ (pZ (pZ (pZ (pZ (pZ hsz)))))))))))))))))))))))))))) (by decide)) (load45 (kc hp0 W hW))) ?_
  refine n_take (i := 30) (d := some 51) (v := (.int .i64 m)) h30 (wanted_yes rfl h24 rfl (pO (by decide) (pO (by decide) (pO (by decide) (pO (by decide) (pO (by decide) (pS (pZ (pZ (pZ (pZ (pZ (pZ (pZ (pZ (pZ (pZ (pZ (pZ (pZ (pZ (pZ (pZ (pZ (pZ (pZ (pZ (pZ (pZ (pZ (pZ hsz)))))))))))))))))))))))) (by decide)))))))) rfl (fun W hW => x_len rfl (pS (pZ (pZ (pZ (pZ (pZ (pZ (pZ (pZ (pZ (pZ (pZ (pZ (pZ (pZ (pZ (pZ (pZ (pZ (pZ (pZ (pZ (pZ (pZ (pZ (pZ (pZ (pZ (pZ (pZ hsz))))))))))))))))))))))))))))) (by decide)) (len45 _ _ _ _ _)) ?_
  refine n_take (i := 31) (d := some 52) (v := (.slice (some ⟨gE, 0, none⟩) n ce)) h31 (wanted_yes rfl h24 rfl (pO (by decide) (pO (by decide) (pO (by decide) (pO (by decide) (pO (by decide) (pO (by decide) (pS (pZ (pZ (pZ (pZ (pZ (pZ (pZ (pZ (pZ (pZ (pZ (pZ (pZ (pZ (pZ (pZ (pZ (pZ (pZ (pZ (pZ (pZ (pZ (pZ hsz)))))))))))))))))))))))) (by decide))))))))) rfl (fun W hW => x_move rfl (pO (by decide) (pO (by decide) (pO (by decide) (pO (by decide) (pO (by decide) (pO (by decide) (pO (by decide) (pO (by decide) (pO (by decide) (pO (by decide) (pO (by decide) (pO (by decide) (pO (by decide) (pO (by decide) (pO (by decide) (pO (by decide) (pO (by decide) (pO (by decide) (pO (by decide) (pO (by decide) (pO (by decide) (pO (by decide) (pO (by decide) (pO (by decide) (pO (by decide) (pO (by decide) (pO (by decide) (pO (by decide) (pO (by decide) (pO (by decide) (pO (by decide) e1)))))))))))))))))))))))))))))))) ?_
  refine n_take (i := 32) (d := some 53) (v := (.int .i64 i)) h32 (wanted_yes rfl h24 rfl (pO (by decide) (pO (by decide) (pO (by decide) (pO (by decide) (pO (by decide) (pO (by decide) (pO (by decide) (pS (pZ (pZ (pZ (pZ (pZ (pZ (pZ (pZ (pZ (pZ (pZ (pZ (pZ (pZ (pZ (pZ (pZ (pZ (pZ (pZ (pZ (pZ (pZ (pZ hsz)))))))))))))))))))))))) (by decide)))))))))) rfl (fun W hW => x_move rfl (pO (by decide) (pO (by decide) (pO (by decide) (pO (by decide) (pO (by decide) (pO (by decide) (pO (by decide) (pO (by decide) (pO (by decide) (pO (by decide) (pO (by decide) (pO (by decide) (pO (by decide) (pO (by decide) (pO (by decide) (pO (by decide) (pO (by decide) (pO (by decide) (pO (by decide) (pO (by decide) (pO (by decide) (pO (by decide) (pO (by decide) (pO (by decide) (pO (by decide) (pO (by decide) (pO (by decide) (pO (by decide) (pO (by decide) (pO (by decide) (pO (by decide) (pO (by decide) e5))))))))))))))))))))))))))))))))) ?_
  refine n_take (i := 33) (d := some 54) (v := (.pointer (some ⟨gE, i * 3, none⟩))) h33 (wanted_yes rfl h24 rfl (pO (by decide) (pO (by decide) (pO (by decide) (pO (by decide) (pO (by decide) (pO (by decide) (pO (by decide) (pO (by decide) (pS (pZ (pZ (pZ (pZ (pZ (pZ (pZ (pZ (pZ (pZ (pZ (pZ (pZ (pZ (pZ (pZ (pZ (pZ (pZ (pZ (pZ (pZ (pZ (pZ hsz)))))))))))))))))))))))) (by decide))))))))))) rfl (fun W hW => x_index rfl (pO (by decide) (pS (pZ (pZ (pZ (pZ (pZ (pZ (pZ (pZ (pZ (pZ (pZ (pZ (pZ (pZ (pZ (pZ (pZ (pZ (pZ (pZ (pZ (pZ (pZ (pZ (pZ (pZ (pZ (pZ (pZ (pZ (pZ hsz))))))))))))))))))))))))))))))) (by decide))) (pS (pZ (pZ (pZ (pZ (pZ (pZ (pZ (pZ (pZ (pZ (pZ (pZ (pZ (pZ (pZ (pZ (pZ (pZ (pZ (pZ (pZ (pZ (pZ (pZ (pZ (pZ (pZ (pZ (pZ (pZ (pZ (pZ hsz)))))))))))))))))))))))))))))))) (by decide)) (run_idx49 W gE n ce i hi)) ?_
  refine n_take (i := 34) (d := some 55) (v := (.pointer (some ⟨gE, i * 3 + 2, none⟩))) h34 (wanted_yes rfl h24 rfl (pO (by decide) (pO (by decide) (pO (by decide) (pO (by decide) (pO (by decide) (pO (by decide) (pO (by decide) (pO (by decide) (pO (by decide) (pS (pZ (pZ (pZ (pZ (pZ (pZ (pZ (pZ (pZ (pZ (pZ (pZ (pZ (pZ (pZ (pZ (pZ (pZ (pZ (pZ (pZ (pZ (pZ (pZ hsz)))))))))))))))))))))))) (by decide)))))))))))) rfl (fun W hW => x_field rfl (pS (pZ (pZ (pZ (pZ (pZ (pZ (pZ (pZ (pZ (pZ (pZ (pZ (pZ (pZ (pZ (pZ (pZ (pZ (pZ (pZ (pZ (pZ (pZ (pZ (pZ (pZ (pZ (pZ (pZ (pZ (pZ (pZ (pZ hsz))))))))))))))))))))))))))))))))) (by decide)) (field55 W gE _)) ?_
  refine n_take (i := 35) (d := some 56) (v := (.slice pE m cb2)) h35 (wanted_yes rfl h24 rfl (pO (by decide) (pO (by decide) (pO (by decide) (pO (by decide) (pO (by decide) (pO (by decide) (pO (by decide) (pO (by decide) (pO (by decide) (pO (by decide) (pS (pZ (pZ (pZ (pZ (pZ (pZ (pZ (pZ (pZ (pZ (pZ (pZ (pZ (pZ (pZ (pZ (pZ (pZ (pZ (pZ (pZ (pZ (pZ (pZ hsz)))))))))))))))))))))))) (by decide))))))))))))) rfl (fun W hW => exec_load rfl (pS (pZ (pZ (pZ (pZ (pZ (pZ (pZ (pZ (pZ (pZ (pZ (pZ (pZ (pZ (pZ (pZ (pZ (pZ (pZ (pZ (pZ (pZ (pZ (pZ (pZ (pZ (pZ (pZ (pZ (pZ (pZ (pZ (pZ (pZ hsz)))))))))))))))))))))))))))))))))) (by decide)) (load45 (kc hp1 W hW))) ?_
  refine n_take (i := 36) (d := some 57) (v := (.int .i64 m)) h36 (wanted_yes rfl h24 rfl (pO (by decide) (pO (by decide) (pO (by decide) (pO (by decide) (pO (by decide) (pO (by decide) (pO (by decide) (pO (by decide) (pO (by decide) (pO (by decide) (pO (by decide) (pS (pZ (pZ (pZ (pZ (pZ (pZ (pZ (pZ (pZ (pZ (pZ (pZ (pZ (pZ (pZ (pZ (pZ (pZ (pZ (pZ (pZ (pZ (pZ (pZ hsz)))))))))))))))))))))))) (by decide)))))))))))))) rfl (fun W hW => x_len rfl (pS (pZ (pZ (pZ (pZ (pZ (pZ (pZ (pZ (pZ (pZ (pZ (pZ (pZ (pZ (pZ (pZ (pZ (pZ (pZ (pZ (pZ (pZ (pZ (pZ (pZ (pZ (pZ (pZ (pZ (pZ (pZ (pZ (pZ (pZ (pZ hsz))))))))))))))))))))))))))))))))))) (by decide)) (len45 _ _ _ _ _)) ?_
  refine n_take (i := 37) (d := some 58) (v := (.bool false)) h37 (wanted_yes rfl h24 rfl (pO (by decide) (pO (by decide) (pO (by decide) (pO (by decide) (pO (by decide) (pO (by decide) (pO (by decide) (pO (by decide) (pO (by decide) (pO (by decide) (pO (by decide) (pO (by decide) (pS (pZ (pZ (pZ (pZ (pZ (pZ (pZ (pZ (pZ (pZ (pZ (pZ (pZ (pZ (pZ (pZ (pZ (pZ (pZ (pZ (pZ (pZ (pZ (pZ hsz)))))))))))))))))))))))) (by decide))))))))))))))) rfl (fun W hW => x_bin rfl (pO (by decide) (pO (by decide) (pO (by decide) (pO (by decide) (pO (by decide) (pO (by decide) (pS (pZ (pZ (pZ (pZ (pZ (pZ (pZ (pZ (pZ (pZ (pZ (pZ (pZ (pZ (pZ (pZ (pZ (pZ (pZ (pZ (pZ (pZ (pZ (pZ (pZ (pZ (pZ (pZ (pZ (pZ hsz)))))))))))))))))))))))))))))) (by decide)))))))) (pS (pZ (pZ (pZ (pZ (pZ (pZ (pZ (pZ (pZ (pZ (pZ (pZ (pZ (pZ (pZ (pZ (pZ (pZ (pZ (pZ (pZ (pZ (pZ (pZ (pZ (pZ (pZ (pZ (pZ (pZ (pZ (pZ (pZ (pZ (pZ (pZ hsz)))))))))))))))))))))))))))))))))))) (by decide)) (neq_intF W _ _ rfl)) ?_
  refine n_take (i := 38) (d := some 59) (v := (.bool false)) h38 (wanted_none rfl) rfl (fun W hW => x_pickF rfl (pO (by decide) (pO (by decide) (pO (by decide) (pO (by decide) (pO (by decide) (pO (by decide) (pO (by decide) (pO (by decide) (pO (by decide) (pO (by decide) (pO (by decide) (pO (by decide) (pO (by decide) (pS (pZ (pZ (pZ (pZ (pZ (pZ (pZ (pZ (pZ (pZ (pZ (pZ (pZ (pZ (pZ (pZ (pZ (pZ (pZ (pZ (pZ (pZ (pZ (pZ hsz)))))))))))))))))))))))) (by decide))))))))))))))) (pS (pZ (pZ (pZ (pZ (pZ (pZ (pZ (pZ (pZ (pZ (pZ (pZ (pZ (pZ (pZ (pZ (pZ (pZ (pZ (pZ (pZ (pZ (pZ (pZ (pZ (pZ (pZ (pZ (pZ (pZ (pZ (pZ (pZ (pZ (pZ (pZ (pZ hsz))))))))))))))))))))))))))))))))))))) (by decide))) ?_
  refine n_done ?_
  exact K _ _ _ _ _ _ _ _ _ _ _ _ _ _ _ _ _ _ _ _ _ _ _ _ _ _ _ _ _ _ _ _ _ _ _ _ _ _ _ (Lib.hid hB0)
set_option maxHeartbeats 1600000 in
theorem same11 {ops : Array Oper} {Q : Exit → Act → World → Prop} {a : Act} {w : World} (id : Nat) {y0 y1 y2 y3 y4 y5 y6 y7 y8 y9 y10 y11 y12 y13 y14 y15 y16 y17 y18 y19 : TypeId} {q0 q1 q2 q3 q4 q5 q6 q7 q8 q9 q10 q11 q12 q13 q14 q15 q16 q17 q18 q19 : String} {f0 f1 f2 f3 f4 f5 f6 f7 f8 f9 f10 f11 f12 f13 f14 f15 f16 f17 f18 f19 : Array Edge} (hok : regT ops (.cons 0 true (.cons 1 true (.cons 2 true (.cons 3 true (.cons 4 true (.cons 5 true (.cons 6 true (.cons 7 true (.cons 8 true (.cons 9 true (.cons 10 true (.cons 11 true (.cons 12 true (.cons 13 true (.cons 14 true (.cons 15 true (.fork 16 17 (.cons 17 false (.cons 18 false (.cons 19 false .nil))) (.cons 16 false (.cons 18 false (.cons 19 false .nil)))))))))))))))))))) = true)
    (h0 : ops[0]? = some ⟨(some 70), .move (.tmp 0), y0, q0, f0, none⟩) (h1 : ops[1]? = some ⟨(some 71), .move (.tmp 5), y1, q1, f1, none⟩) (h2 : ops[2]? = some ⟨(some 72), .indexAddr 49 (.tmp 70) (.tmp 71), y2, q2, f2, none⟩) (h3 : ops[3]? = some ⟨(some 73), .fieldAddr 55 (.tmp 72) 2, y3, q3, f3, none⟩) (h4 : ops[4]? = some ⟨(some 74), .load 45 (.tmp 73), y4, q4, f4, none⟩) (h5 : ops[5]? = some ⟨(some 75), .move (.tmp 6), y5, q5, f5, none⟩) (h6 : ops[6]? = some ⟨(some 76), .indexAddr 45 (.tmp 74) (.tmp 75), y6, q6, f6, none⟩) (h7 : ops[7]? = some ⟨(some 77), .load 58 (.tmp 76), y7, q7, f7, none⟩) (h8 : ops[8]? = some ⟨(some 78), .move (.tmp 1), y8, q8, f8, none⟩) (h9 : ops[9]? = some ⟨(some 79), .move (.tmp 5), y9, q9, f9, none⟩) (h10 : ops[10]? = some ⟨(some 80), .indexAddr 49 (.tmp 78) (.tmp 79), y10, q10, f10, none⟩) (h11 : ops[11]? = some ⟨(some 81), .fieldAddr 55 (.tmp 80) 2, y11, q11, f11, none⟩) (h12 : ops[12]? = some ⟨(some 82), .load 45 (.tmp 81), y12, q12, f12, none⟩) (h13 : ops[13]? = some ⟨(some 83), .move (.tmp 6), y13, q13, f13, none⟩) (h14 : ops[14]? = some ⟨(some 84), .indexAddr 45 (.tmp 82) (.tmp 83), y14, q14, f14, none⟩) (h15 : ops[15]? = some ⟨(some 85), .load 58 (.tmp 84), y15, q15, f15, none⟩) (h16 : ops[16]? = some ⟨(some 7), .alloc 58, y16, q16, f16, none⟩) (h17 : ops[17]? = some ⟨(some 8), .alloc 58, y17, q17, f17, none⟩) (h18 : ops[18]? = some ⟨none, .store 58 (.tmp 7) (.tmp 77), y18, q18, f18, none⟩) (h19 : ops[19]? = some ⟨none, .store 58 (.tmp 8) (.tmp 85), y19, q19, f19, none⟩)
    (hsz : 118 ≤ a.tmps.size) (hQ : ∀ c a (d : Nat) v w, Q (.panic c) (a.put (some d) v) w → Q (.panic c) a w) {gD gE n c ce i j m cb cb2 gP oP gQ oQ k cB cB2 : Nat} {f t : Int} {B B2 : Option Addr} (e0 : a.eval (.tmp 0) = (.slice (some ⟨gD, 0, none⟩) n c)) (e1 : a.eval (.tmp 1) = (.slice (some ⟨gE, 0, none⟩) n ce)) (e5 : a.eval (.tmp 5) = (.int .i64 i)) (e6 : a.eval (.tmp 6) = (.int .i64 j)) (hi : i < n) (hj : j < m) (hp0 : w.cell? ⟨gD, i * 3 + 2, none⟩ = some (.slice (some ⟨gP, oP, none⟩) m cb)) (hp1 : w.cell? ⟨gE, i * 3 + 2, none⟩ = some (.slice (some ⟨gQ, oQ, none⟩) m cb2)) (ha0 : w.cell? ⟨gP, oP + j * 3, none⟩ = some (.int .i64 f)) (ha1 : w.cell? ⟨gP, oP + j * 3 + 1, none⟩ = some (.int .i64 t)) (ha2 : w.cell? ⟨gP, oP + j * 3 + 2, none⟩ = some (.slice B k cB)) (hb0 : w.cell? ⟨gQ, oQ + j * 3, none⟩ = some (.int .i64 f)) (hb1 : w.cell? ⟨gQ, oQ + j * 3 + 1, none⟩ = some (.int .i64 t)) (hb2 : w.cell? ⟨gQ, oQ + j * 3 + 2, none⟩ = some (.slice B2 k cB2))
    (K : ∀ z0 z1 z2 z3 z4 z5 z6 z7 z8 z9 z10 z11 z12 z13 z14 z15 g7 g8 w', Hid (Blk w' g7 58 #[.int .i64 f, .int .i64 t, .slice B k cB]) → Hid (Blk w' g8 58 #[.int .i64 f, .int .i64 t, .slice B2 k cB2]) → Hid (Bel w w') → Q .normal ((((((((((((((((((a.put (some 70) z0).put (some 71) z1).put (some 72) z2).put (some 73) z3).put (some 74) z4).put (some 75) z5).put (some 76) z6).put (some 77) z7).put (some 78) z8).put (some 79) z9).put (some 80) z10).put (some 81) z11).put (some 82) z12).put (some 83) z13).put (some 84) z14).put (some 85) z15).put (some 7) (.pointer (some ⟨g7, 0, none⟩))).put (some 8) (.pointer (some ⟨g8, 0, none⟩))) w') : (Code.region id ops true).wp Try.prog Q a w := by
  have kc : ∀ {p : Addr} {v : Value}, w.cell? p = some v → ∀ W, Bel w.drew W → W.cell? p = some v := fun {p} {v} h W hW => (hW.cell (p := p) (World.block_lt_of_cell? w.drew _ h)).trans h
  have hW1 : Bel w.drew (w.drew.alloc (.cells #[.int .i64 0, .int .i64 0, .slice none 0 0] 58)) := Bel.alloc_ (Bel.refl _) _
  have hW2 : Bel w.drew ((w.drew.alloc (.cells #[.int .i64 0, .int .i64 0, .slice none 0 0] 58)).alloc (.cells #[.int .i64 0, .int .i64 0, .slice none 0 0] 58)) := Bel.alloc_ hW1 _
  have hle1 : w.drew.heap.size ≤ (w.drew.alloc (.cells #[.int .i64 0, .int .i64 0, .slice none 0 0] 58)).heap.size := Below.size hW1
  have hne : (w.drew.alloc (.cells #[.int .i64 0, .int .i64 0, .slice none 0 0] 58)).heap.size ≠ w.drew.heap.size := by simp
  refine wp_region_WS (S := Bel w.drew) (by kernel_rfl) hok hQ (Bel.refl _) ?_
  refine stake_ (i := 0) (d := some 70) (v := (.slice (some ⟨gD, 0, none⟩) n c)) h0 (wanted_none rfl) rfl (fun W hW => x_move rfl e0) ?_
  refine stake_ (i := 1) (d := some 71) (v := (.int .i64 i)) h1 (wanted_none rfl) rfl (fun W hW => x_move rfl (pO (by decide) e5)) ?_
  refine stake_ (i := 2) (d := some 72) (v := (.pointer (some ⟨gD, i * 3, none⟩))) h2 (wanted_none rfl) rfl (fun W hW => x_index rfl (pO (by decide) (pS hsz (by decide))) (pS (pZ hsz) (by decide)) (run_idx49 W gD n c i hi)) ?_
  refine stake_ (i := 3) (d := some 73) (v := (.pointer (some ⟨gD, i * 3 + 2, none⟩))) h3 (wanted_none rfl) rfl (fun W hW => x_field rfl (pS (pZ (pZ hsz)) (by decide)) (field55 W gD _)) ?_
  refine stake_ (i := 4) (d := some 74) (v := (.slice (some ⟨gP, oP, none⟩) m cb)) h4 (wanted_none rfl) rfl (fun W hW => exec_load rfl (pS (pZ (pZ (pZ hsz))) (by decide)) (load45 (kc hp0 W hW))) ?_
  refine stake_ (i := 5) (d := some 75) (v := (.int .i64 j)) h5 (wanted_none rfl) rfl (fun W hW => x_move rfl (pO (by decide) (pO (by decide) (pO (by decide) (pO (by decide) (pO (by decide) e6)))))) ?_
  refine stake_ (i := 6) (d := some 76) (v := (.pointer (some ⟨gP, oP + j * 3, none⟩))) h6 (wanted_none rfl) rfl (fun W hW => x_index rfl (pO (by decide) (pS (pZ (pZ (pZ (pZ hsz)))) (by decide))) (pS (pZ (pZ (pZ (pZ (pZ hsz))))) (by decide)) (run_idx45 W gP oP m cb j hj)) ?_
  refine stake_ (i := 7) (d := some 77) (v := (.agg #[.int .i64 f, .int .i64 t, .slice B k cB])) h7 (wanted_none rfl) rfl (fun W hW => exec_load rfl (pS (pZ (pZ (pZ (pZ (pZ (pZ hsz)))))) (by decide)) (load58 (kc ha0 W hW) (kc ha1 W hW) (kc ha2 W hW))) ?_
  refine stake_ (i := 8) (d := some 78) (v := (.slice (some ⟨gE, 0, none⟩) n ce)) h8 (wanted_none rfl) rfl (fun W hW => x_move rfl (pO (by decide) (pO (by decide) (pO (by decide) (pO (by decide) (pO (by decide) (pO (by decide) (pO (by decide) (pO (by decide) e1))))))))) ?_
  refine stake_ (i := 9) (d := some 79) (v := (.int .i64 i)) h9 (wanted_none rfl) rfl (fun W hW => x_move rfl (pO (by decide) (pO (by decide) (pO (by decide) (pO (by decide) (pO (by decide) (pO (by decide) (pO (by decide) (pO (by decide) (pO (by decide) e5)))))))))) ?_
  refine stake_ (i := 10) (d := some 80) (v := (.pointer (some ⟨gE, i * 3, none⟩))) h10 (wanted_none rfl) rfl (fun W hW => x_index rfl (pO (by decide) (pS (pZ (pZ (pZ (pZ (pZ (pZ (pZ (pZ hsz)))))))) (by decide))) (pS (pZ (pZ (pZ (pZ (pZ (pZ (pZ (pZ (pZ hsz))))))))) (by decide)) (run_idx49 W gE n ce i hi)) ?_
  refine stake_ (i := 11) (d := some 81) (v := (.pointer (some ⟨gE, i * 3 + 2, none⟩))) h11 (wanted_none rfl) rfl (fun W hW => x_field rfl (pS (pZ (pZ (pZ (pZ (pZ (pZ (pZ (pZ (pZ (pZ hsz)))))))))) (by decide)) (field55 W gE _)) ?_
  refine stake_ (i := 12) (d := some 82) (v := (.slice (some ⟨gQ, oQ, none⟩) m cb2)) h12 (wanted_none rfl) rfl (fun W hW => exec_load rfl (pS (pZ (pZ (pZ (pZ (pZ (pZ (pZ (pZ (pZ (pZ (pZ hsz))))))))))) (by decide)) (load45 (kc hp1 W hW))) ?_
  refine stake_ (i := 13) (d := some 83) (v := (.int .i64 j)) h13 (wanted_none rfl) rfl (fun W hW => x_move rfl (pO (by decide) (pO (by decide) (pO (by decide) (pO (by decide) (pO (by decide) (pO (by decide) (pO (by decide) (pO (by decide) (pO (by decide) (pO (by decide) (pO (by decide) (pO (by decide) (pO (by decide) e6)))))))))))))) ?_
  refine stake_ (i := 14) (d := some 84) (v := (.pointer (some ⟨gQ, oQ + j * 3, none⟩))) h14 (wanted_none rfl) rfl (fun W hW => x_index rfl (pO (by decide) (pS (pZ (pZ (pZ (pZ (pZ (pZ (pZ (pZ (pZ (pZ (pZ (pZ hsz)))))))))))) (by decide))) (pS (pZ (pZ (pZ (pZ (pZ (pZ (pZ (pZ (pZ (pZ (pZ (pZ (pZ hsz))))))))))))) (by decide)) (run_idx45 W gQ oQ m cb2 j hj)) ?_
  refine stake_ (i := 15) (d := some 85) (v := (.agg #[.int .i64 f, .int .i64 t, .slice B2 k cB2])) h15 (wanted_none rfl) rfl (fun W hW => exec_load rfl (pS (pZ (pZ (pZ (pZ (pZ (pZ (pZ (pZ (pZ (pZ (pZ (pZ (pZ (pZ hsz)))))))))))))) (by decide)) (load58 (kc hb0 W hW) (kc hb1 W hW) (kc hb2 W hW))) ?_
  refine sfork2_ (i := 16) (j := 17) (d := some 7) (d' := some 8) (v := (.pointer (some ⟨w.drew.heap.size, 0, none⟩))) (w'' := w.drew.alloc (.cells #[.int .i64 0, .int .i64 0, .slice none 0 0] 58)) (v' := (.pointer (some ⟨w.drew.heap.size, 0, none⟩))) (w' := w.drew.alloc (.cells #[.int .i64 0, .int .i64 0, .slice none 0 0] 58)) h16 (wanted_none rfl) rfl (x_alloc58 rfl) (hW1) h17 (wanted_none rfl) rfl (x_alloc58 rfl) (hW1) ?_ ?_
  · refine sval_ (i := 17) (d := some 8) (v := (.pointer (some ⟨(w.drew.alloc (.cells #[.int .i64 0, .int .i64 0, .slice none 0 0] 58)).heap.size, 0, none⟩))) (w' := (w.drew.alloc (.cells #[.int .i64 0, .int .i64 0, .slice none 0 0] 58)).alloc (.cells #[.int .i64 0, .int .i64 0, .slice none 0 0] 58)) h17 (wanted_none rfl) rfl (x_alloc58 rfl) (hW2) ?_
    refine sunit_ (i := 18) (w' := (((((w.drew.alloc (.cells #[.int .i64 0, .int .i64 0, .slice none 0 0] 58)).alloc (.cells #[.int .i64 0, .int .i64 0, .slice none 0 0] 58)).setCell ⟨w.drew.heap.size, 0, none⟩ (.int .i64 f)).setCell ⟨w.drew.heap.size, 1, none⟩ (.int .i64 t)).setCell ⟨w.drew.heap.size, 2, none⟩ (.slice B k cB))) h18 (wanted_none rfl) rfl (exec_store rfl (pO (by decide) (pS (pZ (pZ (pZ (pZ (pZ (pZ (pZ (pZ (pZ (pZ (pZ (pZ (pZ (pZ (pZ (pZ hsz)))))))))))))))) (by decide))) (pO (by decide) (pO (by decide) (pO (by decide) (pO (by decide) (pO (by decide) (pO (by decide) (pO (by decide) (pO (by decide) (pO (by decide) (pO (by decide) (pS (pZ (pZ (pZ (pZ (pZ (pZ (pZ hsz))))))) (by decide)))))))))))) (store58 ((Blk.new w.drew 58 _).alloc _))) (Bel.set3 hW2 (Nat.le_refl _) _ _ _) ?_
    have hb8 : Blk (((((w.drew.alloc (.cells #[.int .i64 0, .int .i64 0, .slice none 0 0] 58)).alloc (.cells #[.int .i64 0, .int .i64 0, .slice none 0 0] 58)).setCell ⟨w.drew.heap.size, 0, none⟩ (.int .i64 f)).setCell ⟨w.drew.heap.size, 1, none⟩ (.int .i64 t)).setCell ⟨w.drew.heap.size, 2, none⟩ (.slice B k cB)) (w.drew.alloc (.cells #[.int .i64 0, .int .i64 0, .slice none 0 0] 58)).heap.size 58 #[.int .i64 0, .int .i64 0, .slice none 0 0] := ((((Blk.new (w.drew.alloc (.cells #[.int .i64 0, .int .i64 0, .slice none 0 0] 58)) 58 #[.int .i64 0, .int .i64 0, .slice none 0 0]).far (p := ⟨w.drew.heap.size, 0, none⟩) hne _).far (p := ⟨w.drew.heap.size, 1, none⟩) hne _).far (p := ⟨w.drew.heap.size, 2, none⟩) hne _)
    have hb7 : Blk (((((w.drew.alloc (.cells #[.int .i64 0, .int .i64 0, .slice none 0 0] 58)).alloc (.cells #[.int .i64 0, .int .i64 0, .slice none 0 0] 58)).setCell ⟨w.drew.heap.size, 0, none⟩ (.int .i64 f)).setCell ⟨w.drew.heap.size, 1, none⟩ (.int .i64 t)).setCell ⟨w.drew.heap.size, 2, none⟩ (.slice B k cB)) w.drew.heap.size 58 #[.int .i64 f, .int .i64 t, .slice B k cB] := blk55s ((Blk.new w.drew 58 _).alloc _) _ _ _
    refine sunit_ (i := 19) (w' := ((((((((w.drew.alloc (.cells #[.int .i64 0, .int .i64 0, .slice none 0 0] 58)).alloc (.cells #[.int .i64 0, .int .i64 0, .slice none 0 0] 58)).setCell ⟨w.drew.heap.size, 0, none⟩ (.int .i64 f)).setCell ⟨w.drew.heap.size, 1, none⟩ (.int .i64 t)).setCell ⟨w.drew.heap.size, 2, none⟩ (.slice B k cB)).setCell ⟨(w.drew.alloc (.cells #[.int .i64 0, .int .i64 0, .slice none 0 0] 58)).heap.size, 0, none⟩ (.int .i64 f)).setCell ⟨(w.drew.alloc (.cells #[.int .i64 0, .int .i64 0, .slice none 0 0] 58)).heap.size, 1, none⟩ (.int .i64 t)).setCell ⟨(w.drew.alloc (.cells #[.int .i64 0, .int .i64 0, .slice none 0 0] 58)).heap.size, 2, none⟩ (.slice B2 k cB2))) h19 (wanted_none rfl) rfl (exec_store rfl (pS (pZ (pZ (pZ (pZ (pZ (pZ (pZ (pZ (pZ (pZ (pZ (pZ (pZ (pZ (pZ (pZ (pZ hsz))))))))))))))))) (by decide)) (pO (by decide) (pO (by decide) (pS (pZ (pZ (pZ (pZ (pZ (pZ (pZ (pZ (pZ (pZ (pZ (pZ (pZ (pZ (pZ hsz))))))))))))))) (by decide)))) (store58 hb8)) (Bel.set3 (Bel.set3 hW2 (Nat.le_refl _) _ _ _) hle1 _ _ _) ?_
    refine sdone_ ?_
    exact K _ _ _ _ _ _ _ _ _ _ _ _ _ _ _ _ _ _ _ (Lib.hid (((hb7.far (p := ⟨(w.drew.alloc (.cells #[.int .i64 0, .int .i64 0, .slice none 0 0] 58)).heap.size, 0, none⟩) hne.symm _).far (p := ⟨(w.drew.alloc (.cells #[.int .i64 0, .int .i64 0, .slice none 0 0] 58)).heap.size, 1, none⟩) hne.symm _).far (p := ⟨(w.drew.alloc (.cells #[.int .i64 0, .int .i64 0, .slice none 0 0] 58)).heap.size, 2, none⟩) hne.symm _)) (Lib.hid (blk55s hb8 _ _ _)) (Lib.hid (Bel.trans (Bel.drew w) (Bel.set3 (Bel.set3 hW2 (Nat.le_refl _) _ _ _) hle1 _ _ _)))
  · refine sval_ (i := 16) (d := some 7) (v := (.pointer (some ⟨(w.drew.alloc (.cells #[.int .i64 0, .int .i64 0, .slice none 0 0] 58)).heap.size, 0, none⟩))) (w' := (w.drew.alloc (.cells #[.int .i64 0, .int .i64 0, .slice none 0 0] 58)).alloc (.cells #[.int .i64 0, .int .i64 0, .slice none 0 0] 58)) h16 (wanted_none rfl) rfl (x_alloc58 rfl) (hW2) ?_
    refine sunit_ (i := 18) (w' := (((((w.drew.alloc (.cells #[.int .i64 0, .int .i64 0, .slice none 0 0] 58)).alloc (.cells #[.int .i64 0, .int .i64 0, .slice none 0 0] 58)).setCell ⟨(w.drew.alloc (.cells #[.int .i64 0, .int .i64 0, .slice none 0 0] 58)).heap.size, 0, none⟩ (.int .i64 f)).setCell ⟨(w.drew.alloc (.cells #[.int .i64 0, .int .i64 0, .slice none 0 0] 58)).heap.size, 1, none⟩ (.int .i64 t)).setCell ⟨(w.drew.alloc (.cells #[.int .i64 0, .int .i64 0, .slice none 0 0] 58)).heap.size, 2, none⟩ (.slice B k cB))) h18 (wanted_none rfl) rfl (exec_store rfl (pS (pZ (pZ (pZ (pZ (pZ (pZ (pZ (pZ (pZ (pZ (pZ (pZ (pZ (pZ (pZ (pZ (pZ hsz))))))))))))))))) (by decide)) (pO (by decide) (pO (by decide) (pO (by decide) (pO (by decide) (pO (by decide) (pO (by decide) (pO (by decide) (pO (by decide) (pO (by decide) (pO (by decide) (pS (pZ (pZ (pZ (pZ (pZ (pZ (pZ hsz))))))) (by decide)))))))))))) (store58 (Blk.new (w.drew.alloc (.cells #[.int .i64 0, .int .i64 0, .slice none 0 0] 58)) 58 _))) (Bel.set3 hW2 hle1 _ _ _) ?_
    have hb8 : Blk (((((w.drew.alloc (.cells #[.int .i64 0, .int .i64 0, .slice none 0 0] 58)).alloc (.cells #[.int .i64 0, .int .i64 0, .slice none 0 0] 58)).setCell ⟨(w.drew.alloc (.cells #[.int .i64 0, .int .i64 0, .slice none 0 0] 58)).heap.size, 0, none⟩ (.int .i64 f)).setCell ⟨(w.drew.alloc (.cells #[.int .i64 0, .int .i64 0, .slice none 0 0] 58)).heap.size, 1, none⟩ (.int .i64 t)).setCell ⟨(w.drew.alloc (.cells #[.int .i64 0, .int .i64 0, .slice none 0 0] 58)).heap.size, 2, none⟩ (.slice B k cB)) w.drew.heap.size 58 #[.int .i64 0, .int .i64 0, .slice none 0 0] := (((((Blk.new w.drew 58 #[.int .i64 0, .int .i64 0, .slice none 0 0]).alloc (.cells #[.int .i64 0, .int .i64 0, .slice none 0 0] 58)).far (p := ⟨(w.drew.alloc (.cells #[.int .i64 0, .int .i64 0, .slice none 0 0] 58)).heap.size, 0, none⟩) hne.symm _).far (p := ⟨(w.drew.alloc (.cells #[.int .i64 0, .int .i64 0, .slice none 0 0] 58)).heap.size, 1, none⟩) hne.symm _).far (p := ⟨(w.drew.alloc (.cells #[.int .i64 0, .int .i64 0, .slice none 0 0] 58)).heap.size, 2, none⟩) hne.symm _)
    have hb7 : Blk (((((w.drew.alloc (.cells #[.int .i64 0, .int .i64 0, .slice none 0 0] 58)).alloc (.cells #[.int .i64 0, .int .i64 0, .slice none 0 0] 58)).setCell ⟨(w.drew.alloc (.cells #[.int .i64 0, .int .i64 0, .slice none 0 0] 58)).heap.size, 0, none⟩ (.int .i64 f)).setCell ⟨(w.drew.alloc (.cells #[.int .i64 0, .int .i64 0, .slice none 0 0] 58)).heap.size, 1, none⟩ (.int .i64 t)).setCell ⟨(w.drew.alloc (.cells #[.int .i64 0, .int .i64 0, .slice none 0 0] 58)).heap.size, 2, none⟩ (.slice B k cB)) (w.drew.alloc (.cells #[.int .i64 0, .int .i64 0, .slice none 0 0] 58)).heap.size 58 #[.int .i64 f, .int .i64 t, .slice B k cB] := blk55s (Blk.new (w.drew.alloc (.cells #[.int .i64 0, .int .i64 0, .slice none 0 0] 58)) 58 _) _ _ _
    refine sunit_ (i := 19) (w' := ((((((((w.drew.alloc (.cells #[.int .i64 0, .int .i64 0, .slice none 0 0] 58)).alloc (.cells #[.int .i64 0, .int .i64 0, .slice none 0 0] 58)).setCell ⟨(w.drew.alloc (.cells #[.int .i64 0, .int .i64 0, .slice none 0 0] 58)).heap.size, 0, none⟩ (.int .i64 f)).setCell ⟨(w.drew.alloc (.cells #[.int .i64 0, .int .i64 0, .slice none 0 0] 58)).heap.size, 1, none⟩ (.int .i64 t)).setCell ⟨(w.drew.alloc (.cells #[.int .i64 0, .int .i64 0, .slice none 0 0] 58)).heap.size, 2, none⟩ (.slice B k cB)).setCell ⟨w.drew.heap.size, 0, none⟩ (.int .i64 f)).setCell ⟨w.drew.heap.size, 1, none⟩ (.int .i64 t)).setCell ⟨w.drew.heap.size, 2, none⟩ (.slice B2 k cB2))) h19 (wanted_none rfl) rfl (exec_store rfl (pO (by decide) (pS (pZ (pZ (pZ (pZ (pZ (pZ (pZ (pZ (pZ (pZ (pZ (pZ (pZ (pZ (pZ (pZ hsz)))))))))))))))) (by decide))) (pO (by decide) (pO (by decide) (pS (pZ (pZ (pZ (pZ (pZ (pZ (pZ (pZ (pZ (pZ (pZ (pZ (pZ (pZ (pZ hsz))))))))))))))) (by decide)))) (store58 hb8)) (Bel.set3 (Bel.set3 hW2 hle1 _ _ _) (Nat.le_refl _) _ _ _) ?_
    refine sdone_ ?_
    rw [put_comm _ 8 7 _ _ (by decide)]
    exact K _ _ _ _ _ _ _ _ _ _ _ _ _ _ _ _ _ _ _ (Lib.hid (((hb7.far (p := ⟨w.drew.heap.size, 0, none⟩) hne _).far (p := ⟨w.drew.heap.size, 1, none⟩) hne _).far (p := ⟨w.drew.heap.size, 2, none⟩) hne _)) (Lib.hid (blk55s hb8 _ _ _)) (Lib.hid (Bel.trans (Bel.drew w) (Bel.set3 (Bel.set3 hW2 hle1 _ _ _) (Nat.le_refl _) _ _ _)))
set_option maxHeartbeats 1600000 in
theorem same17 {ops : Array Oper} {Q : Exit → Act → World → Prop} {a : Act} {w : World} (id : Nat) {y0 y1 y2 y3 y4 y5 y6 y7 y8 y9 y10 : TypeId} {q0 q1 q2 q3 q4 q5 q6 q7 q8 q9 q10 : String} {f0 f1 f2 f3 f4 f5 f6 f7 f8 f9 f10 : Array Edge} (hok : regT ops (.cons 0 true (.cons 1 true (.cons 2 true (.cons 3 true (.cons 4 true (.cons 5 true (.cons 6 true (.cons 7 true (.cons 8 true (.cons 9 true (.cons 10 true .nil))))))))))) = true)
    (h0 : ops[0]? = some ⟨(some 107), .fieldAddr 58 (.tmp 7) 1, y0, q0, f0, none⟩) (h1 : ops[1]? = some ⟨(some 108), .load 56 (.tmp 107), y1, q1, f1, none⟩) (h2 : ops[2]? = some ⟨(some 109), .move (.tmp 9), y2, q2, f2, none⟩) (h3 : ops[3]? = some ⟨(some 110), .indexAddr 56 (.tmp 108) (.tmp 109), y3, q3, f3, none⟩) (h4 : ops[4]? = some ⟨(some 111), .load 38 (.tmp 110), y4, q4, f4, none⟩) (h5 : ops[5]? = some ⟨(some 112), .fieldAddr 58 (.tmp 8) 1, y5, q5, f5, none⟩) (h6 : ops[6]? = some ⟨(some 113), .load 56 (.tmp 112), y6, q6, f6, none⟩) (h7 : ops[7]? = some ⟨(some 114), .move (.tmp 9), y7, q7, f7, none⟩) (h8 : ops[8]? = some ⟨(some 115), .indexAddr 56 (.tmp 113) (.tmp 114), y8, q8, f8, none⟩) (h9 : ops[9]? = some ⟨(some 116), .load 38 (.tmp 115), y9, q9, f9, none⟩) (h10 : ops[10]? = some ⟨(some 117), .binOp .neq 38 (.tmp 111) (.tmp 116) 38, y10, q10, f10, none⟩)
    (hsz : 118 ≤ a.tmps.size) (hQ : ∀ c a (d : Nat) v w, Q (.panic c) (a.put (some d) v) w → Q (.panic c) a w) {g7 g8 gB oB gC oC m cb cc x : Nat} {u v : Int} (e7 : a.eval (.tmp 7) = (.pointer (some ⟨g7, 0, none⟩))) (e8 : a.eval (.tmp 8) = (.pointer (some ⟨g8, 0, none⟩))) (e9 : a.eval (.tmp 9) = (.int .i64 x)) (hx : x < m) (hbx7 : w.cell? ⟨g7, 0 + 2, none⟩ = some (.slice (some ⟨gB, oB, none⟩) m cb)) (hbx8 : w.cell? ⟨g8, 0 + 2, none⟩ = some (.slice (some ⟨gC, oC, none⟩) m cc)) (hu0 : w.cell? ⟨gB, oB + x * 2, none⟩ = some (.int .i64 u)) (hv0 : w.cell? ⟨gB, oB + x * 2 + 1, none⟩ = some (.int .i64 v)) (hu1 : w.cell? ⟨gC, oC + x * 2, none⟩ = some (.int .i64 u)) (hv1 : w.cell? ⟨gC, oC + x * 2 + 1, none⟩ = some (.int .i64 v))
    (K : ∀ z0 z1 z2 z3 z4 z5 z6 z7 z8 z9 w', Hid (Bel w w') → Q .normal (((((((((((a.put (some 107) z0).put (some 108) z1).put (some 109) z2).put (some 110) z3).put (some 111) z4).put (some 112) z5).put (some 113) z6).put (some 114) z7).put (some 115) z8).put (some 116) z9).put (some 117) (.bool false)) w') : (Code.region id ops true).wp Try.prog Q a w := by
  have kc : ∀ {p : Addr} {v : Value}, w.cell? p = some v → ∀ W, Bel w.drew W → W.cell? p = some v := fun {p} {v} h W hW => (hW.cell (p := p) (World.block_lt_of_cell? w.drew _ h)).trans h
  have hB0 := Bel.drew w
  refine wp_region_WN (by kernel_rfl) hok hQ ?_
  refine n_take (i := 0) (d := some 107) (v := (.pointer (some ⟨g7, 0 + 2, none⟩))) h0 (wanted_none rfl) rfl (fun W hW => x_field rfl e7 (field58b W g7 _)) ?_
  refine n_take (i := 1) (d := some 108) (v := (.slice (some ⟨gB, oB, none⟩) m cb)) h1 (wanted_none rfl) rfl (fun W hW => exec_load rfl (pS hsz (by decide)) (load56 (kc hbx7 W hW))) ?_
  refine n_take (i := 2) (d := some 109) (v := (.int .i64 x)) h2 (wanted_none rfl) rfl (fun W hW => x_move rfl (pO (by decide) (pO (by decide) e9))) ?_
  refine n_take (i := 3) (d := some 110) (v := (.pointer (some ⟨gB, oB + x * 2, none⟩))) h3 (wanted_none rfl) rfl (fun W hW => x_index rfl (pO (by decide) (pS (pZ hsz) (by decide))) (pS (pZ (pZ hsz)) (by decide)) (run_idx56_ W gB oB m cb x hx)) ?_
  refine n_take (i := 4) (d := some 111) (v := (.agg #[.int .i64 u, .int .i64 v])) h4 (wanted_none rfl) rfl (fun W hW => exec_load rfl (pS (pZ (pZ (pZ hsz))) (by decide)) (load38 (kc hu0 W hW) (kc hv0 W hW))) ?_
  refine n_take (i := 5) (d := some 112) (v := (.pointer (some ⟨g8, 0 + 2, none⟩))) h5 (wanted_none rfl) rfl (fun W hW => x_field rfl (pO (by decide) (pO (by decide) (pO (by decide) (pO (by decide) (pO (by decide) e8))))) (field58b W g8 _)) ?_
  refine n_take (i := 6) (d := some 113) (v := (.slice (some ⟨gC, oC, none⟩) m cc)) h6 (wanted_none rfl) rfl (fun W hW => exec_load rfl (pS (pZ (pZ (pZ (pZ (pZ hsz))))) (by decide)) (load56 (kc hbx8 W hW))) ?_
  refine n_take (i := 7) (d := some 114) (v := (.int .i64 x)) h7 (wanted_none rfl) rfl (fun W hW => x_move rfl (pO (by decide) (pO (by decide) (pO (by decide) (pO (by decide) (pO (by decide) (pO (by decide) (pO (by decide) e9)))))))) ?_
  refine n_take (i := 8) (d := some 115) (v := (.pointer (some ⟨gC, oC + x * 2, none⟩))) h8 (wanted_none rfl) rfl (fun W hW => x_index rfl (pO (by decide) (pS (pZ (pZ (pZ (pZ (pZ (pZ hsz)))))) (by decide))) (pS (pZ (pZ (pZ (pZ (pZ (pZ (pZ hsz))))))) (by decide)) (run_idx56_ W gC oC m cc x hx)) ?_
  refine n_take (i := 9) (d := some 116) (v := (.agg #[.int .i64 u, .int .i64 v])) h9 (wanted_none rfl) rfl (fun W hW => exec_load rfl (pS (pZ (pZ (pZ (pZ (pZ (pZ (pZ (pZ hsz)))))))) (by decide)) (load38 (kc hu1 W hW) (kc hv1 W hW))) ?_
  refine n_take (i := 10) (d := some 117) (v := (.bool false)) h10 (wanted_none rfl) rfl (fun W hW => x_binA_ rfl (pO (by decide) (pO (by decide) (pO (by decide) (pO (by decide) (pO (by decide) (pS (pZ (pZ (pZ (pZ hsz)))) (by decide))))))) (pS (pZ (pZ (pZ (pZ (pZ (pZ (pZ (pZ (pZ hsz))))))))) (by decide)) guard38_ (neq38F W _ _)) ?_
  refine n_done ?_
  exact K _ _ _ _ _ _ _ _ _ _ _ (Lib.hid hB0)
/-- the inner append: a copy of the breaks -/
theorem sp_copy {W0 W : World} {b0 : Nat} {B : Option Addr} {m cb : Nat} {bs : List (Int × Int)} (hW : Bel W0 W) (hown : W.ownsRow W0.heap.size 38 2 (.slice (some ⟨b0, 0, none⟩) 0 0) 0 []) (hr : RdP W W.heap.size B bs) (hm : bs.length = m) (hl : m ≤ 2000) :
    ∃ A' c' w', (Builtin.append_ #[56, 56] 56 #[.slice (some ⟨b0, 0, none⟩) 0 0, .slice B m cb]).run Try.prog W = .ok (.slice A' m c') w' ∧ w'.ownsRow W0.heap.size 38 2 (.slice A' m c') m (flat2 bs) ∧ Bel W0 w' ∧ ∀ x t cs, x ≠ b0 → Blk W x t cs → Blk w' x t cs := by
  subst hm
  obtain ⟨i0, hi, hz0, hz1, hz2⟩ := info_parts infoIv
  obtain ⟨A', c', w', r1, r2, r3, r4⟩ := append_full (P := Try.prog) W W0.heap.size 56 56 38 i0 _ 2 16 undIv hi hz0 hz1 hz2 rfl (by decide) _ 0 [] hown B bs.length cb (flat2 bs) (src_rdP hr) (flat2_one bs) (by unfold maxLen; omega) (by omega) hW.size
  rw [List.nil_append] at r2
  rw [Nat.zero_add] at r1 r2
  exact ⟨A', c', w', r1, r2, hW.grown r3 hW.size (fun g hg => (hown.lt g hg).1), fun x t cs hne hb => hb.grown r3 (fun e => by
    simp [Value.ownBlock] at e
    exact hne e)⟩
theorem sp_more {W0 W : World} {A : Option Addr} {m c gl : Nat} {bs : List (Int × Int)} {f t : Int} (hW : Bel W0 W) (hown : W.ownsRow W0.heap.size 38 2 (.slice A m c) m (flat2 bs)) (hb : Blk W gl 38 #[.int .i64 f, .int .i64 t]) (hl : m ≤ 2000) :
    ∃ A' c' w', (Builtin.append_ #[56, 56] 56 #[.slice A m c, .slice (some ⟨gl, 0, none⟩) 1 1]).run Try.prog W = .ok (.slice A' (m + 1) c') w' ∧ w'.ownsRow W0.heap.size 38 2 (.slice A' (m + 1) c') (m + 1) (flat2 (bs ++ [(f, t)])) ∧ Bel W0 w' := by
  obtain ⟨i0, hi, hz0, hz1, hz2⟩ := info_parts infoIv
  have hs : Src W 2 (some ⟨gl, 0, none⟩) 1 [.int .i64 f, .int .i64 t] := by
    refine ⟨rfl, fun _ => ⟨_, rfl, fun j u hu => ?_⟩⟩
    rw [Go.WideShapes.add_plain, hb.cell, Nat.zero_add]
    simpa using hu
  obtain ⟨A', c', w', r1, r2, r3, r4⟩ := append_full (P := Try.prog) W W0.heap.size 56 56 38 i0 _ 2 16 undIv hi hz0 hz1 hz2 rfl (by decide) _ m _ hown (some ⟨gl, 0, none⟩) 1 1 _ hs (two_one _ _) (by unfold maxLen; omega) (by omega) hW.size
  refine ⟨A', c', w', r1, ?_, hW.grown r3 hW.size (fun g hg => (hown.lt g hg).1)⟩
  rw [flat2_snoc']
  exact r2
set_option maxHeartbeats 1600000 in
theorem spr10 {ops : Array Oper} {Q : Exit → Act → World → Prop} {a : Act} {w : World} (id : Nat) {y0 y1 y2 y3 y4 y5 y7 y8 y9 y10 y11 y12 y13 y14 y15 y16 y17 y18 y19 y21 y22 y23 : TypeId} {q0 q1 q2 q3 q4 q5 q6 q7 q8 q9 q10 q11 q12 q13 q14 q15 q16 q17 q18 q19 q20 q21 q22 q23 : String} {f0 f1 f2 f3 f4 f5 f6 f7 f8 f9 f10 f11 f12 f13 f14 f15 f16 f17 f18 f19 f20 f21 f22 f23 : Array Edge} (hok : regU ops 20 (.cons 0 2 (.cons 2 2 (.cons 3 2 (.cons 4 2 (.cons 5 0 (.cons 7 2 (.cons 8 2 (.cons 9 2 (.cons 10 2 (.cons 11 0 (.cons 12 2 (.cons 13 2 (.cons 14 2 (.cons 15 2 (.cons 16 0 (.cons 17 2 (.cons 18 2 (.fork 1 19 (.fork 6 19 (.cons 19 1 (.cons 20 1 (.cons 21 1 (.cons 22 1 (.cons 23 1 .nil))))) (.cons 6 1 (.cons 20 1 (.cons 21 1 (.cons 22 1 (.cons 23 1 .nil)))))) (.cons 1 1 (.cons 6 1 (.cons 20 1 (.cons 21 1 (.cons 22 1 (.cons 23 1 .nil)))))))))))))))))))))))) = true) (hlt : 20 < ops.size)
    (h0 : ops[0]? = some ⟨(some 43), .move (.tmp 6), y0, q0, f0, none⟩) (h1 : ops[1]? = some ⟨(some 44), .buildSlice 56 0 #[], y1, q1, f1, none⟩) (h2 : ops[2]? = some ⟨(some 45), .move (.tmp 6), y2, q2, f2, none⟩) (h3 : ops[3]? = some ⟨(some 46), .nilCheck (.tmp 45), y3, q3, f3, none⟩) (h4 : ops[4]? = some ⟨(some 47), .fieldAddr 58 (.tmp 46) 1, y4, q4, f4, none⟩) (h5 : ops[5]? = some ⟨(some 48), .load 56 (.tmp 47), y5, q5, f5, none⟩) (h6 : ops[6]? = some ⟨(some 49), .call { callee := .builtin .append, args := #[.tmp 44, .tmp 48], argTypes := #[56, 56] }, 56, q6, f6, none⟩) (h7 : ops[7]? = some ⟨(some 50), .move (.tmp 6), y7, q7, f7, none⟩) (h8 : ops[8]? = some ⟨(some 51), .nilCheck (.tmp 50), y8, q8, f8, none⟩) (h9 : ops[9]? = some ⟨(some 52), .fieldAddr 58 (.tmp 51) 0, y9, q9, f9, none⟩) (h10 : ops[10]? = some ⟨(some 53), .fieldAddr 38 (.tmp 52) 0, y10, q10, f10, none⟩) (h11 : ops[11]? = some ⟨(some 54), .load 3 (.tmp 53), y11, q11, f11, none⟩) (h12 : ops[12]? = some ⟨(some 55), .move (.tmp 6), y12, q12, f12, none⟩) (h13 : ops[13]? = some ⟨(some 56), .nilCheck (.tmp 55), y13, q13, f13, none⟩) (h14 : ops[14]? = some ⟨(some 57), .fieldAddr 58 (.tmp 56) 0, y14, q14, f14, none⟩) (h15 : ops[15]? = some ⟨(some 58), .fieldAddr 38 (.tmp 57) 1, y15, q15, f15, none⟩) (h16 : ops[16]? = some ⟨(some 59), .load 3 (.tmp 58), y16, q16, f16, none⟩) (h17 : ops[17]? = some ⟨(some 60), .binOp .add 3 (.tmp 59) (.const (.int .i64 1)) 3, y17, q17, f17, none⟩) (h18 : ops[18]? = some ⟨(some 61), .build 38 #[(0, .tmp 54), (1, .tmp 60)], y18, q18, f18, none⟩) (h19 : ops[19]? = some ⟨(some 62), .buildSlice 56 1 #[(0, .tmp 61)], y19, q19, f19, none⟩) (h20 : ops[20]? = some ⟨(some 63), .call { callee := .builtin .append, args := #[.tmp 49, .tmp 62], argTypes := #[56, 56] }, 56, q20, f20, none⟩) (h21 : ops[21]? = some ⟨(some 64), .nilCheck (.tmp 43), y21, q21, f21, none⟩) (h22 : ops[22]? = some ⟨(some 65), .fieldAddr 58 (.tmp 64) 1, y22, q22, f22, none⟩) (h23 : ops[23]? = some ⟨none, .store 56 (.tmp 65) (.tmp 63), y23, q23, f23, none⟩)
    (hsz : 75 ≤ a.tmps.size) (hQ : ∀ c a (d : Nat) v w, Q (.panic c) (a.put (some d) v) w → Q (.panic c) a w) {gA x m cb : Nat} {f t : Int} {B : Option Addr} {bs : List (Int × Int)} {cs : Array Value} (e6 : a.eval (.tmp 6) = (.pointer (some ⟨gA, x, none⟩)))
    (hK : Blk w gA 58 cs) (hf : w.cell? ⟨gA, x, none⟩ = some (.int .i64 f)) (ht : w.cell? ⟨gA, x + 1, none⟩ = some (.int .i64 t)) (hbr : w.cell? ⟨gA, x + 2, none⟩ = some (.slice B m cb)) (hr : RdP w w.heap.size B bs) (hm : bs.length = m) (hl : m ≤ 2000) (htb : -1000000000000 ≤ t ∧ t ≤ 1000000000000)
    (K : ∀ z0 z1 z2 z3 z4 z5 z6 z7 z8 z9 z10 z11 z12 z13 z14 z15 z16 z17 z18 z19 z20 z21 z22 A2 c2 w2, Hid (w2.ownsRow w.heap.size 38 2 (.slice A2 (m + 1) c2) (m + 1) (flat2 (bs ++ [(f, t + 1)]))) → Hid (Bel w w2) → Q .normal (((((((((((((((((((((((a.put (some 43) z0).put (some 45) z1).put (some 46) z2).put (some 47) z3).put (some 48) z4).put (some 50) z5).put (some 51) z6).put (some 52) z7).put (some 53) z8).put (some 54) z9).put (some 55) z10).put (some 56) z11).put (some 57) z12).put (some 58) z13).put (some 59) z14).put (some 60) z15).put (some 61) z16).put (some 44) z17).put (some 49) z18).put (some 62) z19).put (some 63) z20).put (some 64) z21).put (some 65) z22) (w2.setCell ⟨gA, x + 2, none⟩ (.slice A2 (m + 1) c2))) : (Code.region id ops true).wp Try.prog Q a w := by
  have kc : ∀ {p : Addr} {v : Value}, w.cell? p = some v → ∀ W, Bel w.drew W → W.cell? p = some v := fun {p} {v} h W hW => (hW.cell (p := p) (World.block_lt_of_cell? w.drew _ h)).trans h
  have hB0 := Bel.drew w
  refine wp_region_WU (by kernel_rfl) hok hQ ?_
  refine u_free (i := 0) (d := some 43) (v := (.pointer (some ⟨gA, x, none⟩))) h0 (wanted_none rfl) rfl (fun W => x_move rfl e6) ?_
  refine u_free (i := 2) (d := some 45) (v := (.pointer (some ⟨gA, x, none⟩))) h2 (wanted_none rfl) rfl (fun W => x_move rfl (pO (by decide) e6)) ?_
  refine u_free (i := 3) (d := some 46) (v := (.pointer (some ⟨gA, x, none⟩))) h3 (wanted_none rfl) rfl (fun W => x_nil rfl (pS (pZ hsz) (by decide))) ?_
  refine u_free (i := 4) (d := some 47) (v := (.pointer (some ⟨gA, x + 2, none⟩))) h4 (wanted_none rfl) rfl (fun W => x_field rfl (pS (pZ (pZ hsz)) (by decide)) (field58b W gA _)) ?_
  refine u_take (i := 5) (d := some 48) (v := (.slice B m cb)) h5 (wanted_none rfl) rfl (fun W hW => exec_load rfl (pS (pZ (pZ (pZ hsz))) (by decide)) (load56 (kc hbr W hW))) ?_
  refine u_free (i := 7) (d := some 50) (v := (.pointer (some ⟨gA, x, none⟩))) h7 (wanted_none rfl) rfl (fun W => x_move rfl (pO (by decide) (pO (by decide) (pO (by decide) (pO (by decide) (pO (by decide) e6)))))) ?_
  refine u_free (i := 8) (d := some 51) (v := (.pointer (some ⟨gA, x, none⟩))) h8 (wanted_none rfl) rfl (fun W => x_nil rfl (pS (pZ (pZ (pZ (pZ (pZ hsz))))) (by decide))) ?_
  refine u_free (i := 9) (d := some 52) (v := (.pointer (some ⟨gA, x, none⟩))) h9 (wanted_none rfl) rfl (fun W => x_field rfl (pS (pZ (pZ (pZ (pZ (pZ (pZ hsz)))))) (by decide)) (field58 W gA _)) ?_
  refine u_free (i := 10) (d := some 53) (v := (.pointer (some ⟨gA, x, none⟩))) h10 (wanted_none rfl) rfl (fun W => x_field rfl (pS (pZ (pZ (pZ (pZ (pZ (pZ (pZ hsz))))))) (by decide)) (field38 W gA _)) ?_
  refine u_take (i := 11) (d := some 54) (v := (.int .i64 f)) h11 (wanted_none rfl) rfl (fun W hW => exec_load rfl (pS (pZ (pZ (pZ (pZ (pZ (pZ (pZ (pZ hsz)))))))) (by decide)) (load3 (kc hf W hW))) ?_
  refine u_free (i := 12) (d := some 55) (v := (.pointer (some ⟨gA, x, none⟩))) h12 (wanted_none rfl) rfl (fun W => x_move rfl (pO (by decide) (pO (by decide) (pO (by decide) (pO (by decide) (pO (by decide) (pO (by decide) (pO (by decide) (pO (by decide) (pO (by decide) (pO (by decide) e6))))))))))) ?_
  refine u_free (i := 13) (d := some 56) (v := (.pointer (some ⟨gA, x, none⟩))) h13 (wanted_none rfl) rfl (fun W => x_nil rfl (pS (pZ (pZ (pZ (pZ (pZ (pZ (pZ (pZ (pZ (pZ hsz)))))))))) (by decide))) ?_
  refine u_free (i := 14) (d := some 57) (v := (.pointer (some ⟨gA, x, none⟩))) h14 (wanted_none rfl) rfl (fun W => x_field rfl (pS (pZ (pZ (pZ (pZ (pZ (pZ (pZ (pZ (pZ (pZ (pZ hsz))))))))))) (by decide)) (field58 W gA _)) ?_
  refine u_free (i := 15) (d := some 58) (v := (.pointer (some ⟨gA, x + 1, none⟩))) h15 (wanted_none rfl) rfl (fun W => x_field rfl (pS (pZ (pZ (pZ (pZ (pZ (pZ (pZ (pZ (pZ (pZ (pZ (pZ hsz)))))))))))) (by decide)) (field38b W gA _)) ?_
  refine u_take (i := 16) (d := some 59) (v := (.int .i64 t)) h16 (wanted_none rfl) rfl (fun W hW => exec_load rfl (pS (pZ (pZ (pZ (pZ (pZ (pZ (pZ (pZ (pZ (pZ (pZ (pZ (pZ hsz))))))))))))) (by decide)) (load3 (kc ht W hW))) ?_
  refine u_free (i := 17) (d := some 60) (v := (.int .i64 (t + 1))) h17 (wanted_none rfl) rfl (fun W => x_bin rfl (pS (pZ (pZ (pZ (pZ (pZ (pZ (pZ (pZ (pZ (pZ (pZ (pZ (pZ (pZ hsz)))))))))))))) (by decide)) rfl (add_int W _ _ (by omega))) ?_
  refine u_free (i := 18) (d := some 61) (v := (.agg #[.int .i64 f, .int .i64 (t + 1)])) h18 (wanted_none rfl) rfl (fun W => x_build2 rfl (pO (by decide) (pO (by decide) (pO (by decide) (pO (by decide) (pO (by decide) (pO (by decide) (pS (pZ (pZ (pZ (pZ (pZ (pZ (pZ (pZ (pZ hsz))))))))) (by decide)))))))) (pS (pZ (pZ (pZ (pZ (pZ (pZ (pZ (pZ (pZ (pZ (pZ (pZ (pZ (pZ (pZ hsz))))))))))))))) (by decide)) (build38 _ _ _)) ?_
  refine u_fork2 (i := 1) (j := 19) (d := some 44) (d' := some 62) (v := (.slice (some ⟨w.drew.heap.size, 0, none⟩) 0 0)) (w'' := w.drew.alloc (.cells #[] 38)) (v' := (.slice (some ⟨w.drew.heap.size, 0, none⟩) 1 1)) (w' := w.drew.alloc (.cells #[.int .i64 f, .int .i64 (t + 1)] 38)) h1 (wanted_none rfl) rfl (x_empty56 rfl) (Bel.alloc_ (Bel.refl _) _) h19 (wanted_none rfl) rfl (exec_buildSlice rfl (pS (pZ (pZ (pZ (pZ (pZ (pZ (pZ (pZ (pZ (pZ (pZ (pZ (pZ (pZ (pZ (pZ hsz)))))))))))))))) (by decide)) (run_one56 _ _ _)) (Bel.alloc_ (Bel.refl _) _) ?_ ?_
  · obtain ⟨A1, c1, w1, r1, o1, b1, k1⟩ := sp_copy (W0 := w.drew) (cb := cb) (Bel.alloc_ (Bel.refl _) (.cells #[] 38)) (emptyLit _ _ _) (rdP_up (Lib.hid hr) (Bel.trans hB0 (Bel.alloc_ (Bel.refl _) _))) hm hl
    obtain ⟨A3, c3, w3, r3, o3, b3, k3⟩ := sp_copy (W0 := w.drew) (cb := cb) (Bel.alloc_ (Bel.alloc_ (Bel.refl _) (.cells #[] 38)) (.cells #[.int .i64 f, .int .i64 (t + 1)] 38)) ((emptyLit _ _ _).alloc _) (rdP_up (Lib.hid hr) (Bel.trans hB0 (Bel.alloc_ (Bel.alloc_ (Bel.refl _) _) _))) hm hl
    refine u_fork2 (i := 6) (j := 19) (d := some 49) (d' := some 62) (v := (.slice A1 m c1)) (w'' := w1) (v' := (.slice (some ⟨(w.drew.alloc (.cells #[] 38)).heap.size, 0, none⟩) 1 1)) (w' := (w.drew.alloc (.cells #[] 38)).alloc (.cells #[.int .i64 f, .int .i64 (t + 1)] 38)) h6 (wanted_none rfl) rfl (exec_append rfl (pS (pZ (pZ (pZ (pZ (pZ (pZ (pZ (pZ (pZ (pZ (pZ (pZ (pZ (pZ (pZ (pZ (pZ hsz))))))))))))))))) (by decide)) (pO (by decide) (pO (by decide) (pO (by decide) (pO (by decide) (pO (by decide) (pO (by decide) (pO (by decide) (pO (by decide) (pO (by decide) (pO (by decide) (pO (by decide) (pO (by decide) (pO (by decide) (pS (pZ (pZ (pZ (pZ hsz)))) (by decide))))))))))))))) r1) (b1) h19 (wanted_none rfl) rfl (exec_buildSlice rfl (pO (by decide) (pS (pZ (pZ (pZ (pZ (pZ (pZ (pZ (pZ (pZ (pZ (pZ (pZ (pZ (pZ (pZ (pZ hsz)))))))))))))))) (by decide))) (run_one56 _ _ _)) (Bel.alloc_ (Bel.alloc_ (Bel.refl _) _) _) ?_ ?_
    · refine u_val (i := 19) (d := some 62) (v := (.slice (some ⟨w1.heap.size, 0, none⟩) 1 1)) (w' := w1.alloc (.cells #[.int .i64 f, .int .i64 (t + 1)] 38)) h19 rfl (wanted_none rfl) rfl (exec_buildSlice rfl (pO (by decide) (pO (by decide) (pS (pZ (pZ (pZ (pZ (pZ (pZ (pZ (pZ (pZ (pZ (pZ (pZ (pZ (pZ (pZ (pZ hsz)))))))))))))))) (by decide)))) (run_one56 _ _ _)) (Bel.alloc_ b1 _) ?_
      obtain ⟨A2, c2, w2, r2, o2, b2⟩ := sp_more (W0 := w.drew) (Bel.alloc_ b1 _) (o1.alloc _) (Blk.new w1 38 #[.int .i64 f, .int .i64 (t + 1)]) hl
      refine u_late (d := some 63) (v := (.slice A2 (m + 1) c2)) (w' := w2) h20 (wanted_none rfl) rfl (exec_append rfl (pO (by decide) (pS (pZ (pZ (pZ (pZ (pZ (pZ (pZ (pZ (pZ (pZ (pZ (pZ (pZ (pZ (pZ (pZ (pZ (pZ hsz)))))))))))))))))) (by decide))) (pS (pZ (pZ (pZ (pZ (pZ (pZ (pZ (pZ (pZ (pZ (pZ (pZ (pZ (pZ (pZ (pZ (pZ (pZ (pZ hsz))))))))))))))))))) (by decide)) r2) hlt ?_
      have hc2 : w2.cell? ⟨gA, x + 2, none⟩ = some (.slice B m cb) := kc hbr _ b2
      have hf2 : w2.frozen? ⟨gA, x + 2, none⟩ = false := (Blk.below (show Blk w.drew gA 58 cs from hK) b2 hK.lt).frozen _
      refine v_one (i := 21) (d := some 64) (v := (.pointer (some ⟨gA, x, none⟩))) h21 (wanted_none rfl) rfl (x_nil rfl (pO (by decide) (pO (by decide) (pO (by decide) (pO (by decide) (pO (by decide) (pO (by decide) (pO (by decide) (pO (by decide) (pO (by decide) (pO (by decide) (pO (by decide) (pO (by decide) (pO (by decide) (pO (by decide) (pO (by decide) (pO (by decide) (pO (by decide) (pO (by decide) (pO (by decide) (pO (by decide) (pS hsz (by decide))))))))))))))))))))))) ?_
      refine v_one (i := 22) (d := some 65) (v := (.pointer (some ⟨gA, x + 2, none⟩))) h22 (wanted_none rfl) rfl (x_field rfl (pS (pZ (pZ (pZ (pZ (pZ (pZ (pZ (pZ (pZ (pZ (pZ (pZ (pZ (pZ (pZ (pZ (pZ (pZ (pZ (pZ (pZ hsz))))))))))))))))))))) (by decide)) (field58b _ gA _)) ?_
      refine v_unit (i := 23) (w' := w2.setCell ⟨gA, x + 2, none⟩ (.slice A2 (m + 1) c2)) h23 (wanted_none rfl) rfl (exec_store rfl (pS (pZ (pZ (pZ (pZ (pZ (pZ (pZ (pZ (pZ (pZ (pZ (pZ (pZ (pZ (pZ (pZ (pZ (pZ (pZ (pZ (pZ (pZ hsz)))))))))))))))))))))) (by decide)) (pO (by decide) (pO (by decide) (pS (pZ (pZ (pZ (pZ (pZ (pZ (pZ (pZ (pZ (pZ (pZ (pZ (pZ (pZ (pZ (pZ (pZ (pZ (pZ (pZ hsz)))))))))))))))))))) (by decide)))) (store56 hc2 hf2)) ?_
      refine v_done ?_
      exact K _ _ _ _ _ _ _ _ _ _ _ _ _ _ _ _ _ _ _ _ _ _ _ A2 c2 w2 (Lib.hid o2) (Lib.hid (Bel.trans (Bel.drew w) b2))
    · refine u_val (i := 6) (d := some 49) (v := (.slice A3 m c3)) (w' := w3) h6 rfl (wanted_none rfl) rfl (exec_append rfl (pO (by decide) (pS (pZ (pZ (pZ (pZ (pZ (pZ (pZ (pZ (pZ (pZ (pZ (pZ (pZ (pZ (pZ (pZ (pZ hsz))))))))))))))))) (by decide))) (pO (by decide) (pO (by decide) (pO (by decide) (pO (by decide) (pO (by decide) (pO (by decide) (pO (by decide) (pO (by decide) (pO (by decide) (pO (by decide) (pO (by decide) (pO (by decide) (pO (by decide) (pO (by decide) (pS (pZ (pZ (pZ (pZ hsz)))) (by decide)))))))))))))))) r3) (b3) ?_
      obtain ⟨A2, c2, w2, r2, o2, b2⟩ := sp_more (W0 := w.drew) b3 o3 (k3 _ _ _ (by simp) (Blk.new (w.drew.alloc (.cells #[] 38)) 38 #[.int .i64 f, .int .i64 (t + 1)])) hl
      refine u_late (d := some 63) (v := (.slice A2 (m + 1) c2)) (w' := w2) h20 (wanted_none rfl) rfl (exec_append rfl (pS (pZ (pZ (pZ (pZ (pZ (pZ (pZ (pZ (pZ (pZ (pZ (pZ (pZ (pZ (pZ (pZ (pZ (pZ (pZ hsz))))))))))))))))))) (by decide)) (pO (by decide) (pS (pZ (pZ (pZ (pZ (pZ (pZ (pZ (pZ (pZ (pZ (pZ (pZ (pZ (pZ (pZ (pZ (pZ (pZ hsz)))))))))))))))))) (by decide))) r2) hlt ?_
      have hc2 : w2.cell? ⟨gA, x + 2, none⟩ = some (.slice B m cb) := kc hbr _ b2
      have hf2 : w2.frozen? ⟨gA, x + 2, none⟩ = false := (Blk.below (show Blk w.drew gA 58 cs from hK) b2 hK.lt).frozen _
      refine v_one (i := 21) (d := some 64) (v := (.pointer (some ⟨gA, x, none⟩))) h21 (wanted_none rfl) rfl (x_nil rfl (pO (by decide) (pO (by decide) (pO (by decide) (pO (by decide) (pO (by decide) (pO (by decide) (pO (by decide) (pO (by decide) (pO (by decide) (pO (by decide) (pO (by decide) (pO (by decide) (pO (by decide) (pO (by decide) (pO (by decide) (pO (by decide) (pO (by decide) (pO (by decide) (pO (by decide) (pO (by decide) (pS hsz (by decide))))))))))))))))))))))) ?_
      refine v_one (i := 22) (d := some 65) (v := (.pointer (some ⟨gA, x + 2, none⟩))) h22 (wanted_none rfl) rfl (x_field rfl (pS (pZ (pZ (pZ (pZ (pZ (pZ (pZ (pZ (pZ (pZ (pZ (pZ (pZ (pZ (pZ (pZ (pZ (pZ (pZ (pZ (pZ hsz))))))))))))))))))))) (by decide)) (field58b _ gA _)) ?_
      refine v_unit (i := 23) (w' := w2.setCell ⟨gA, x + 2, none⟩ (.slice A2 (m + 1) c2)) h23 (wanted_none rfl) rfl (exec_store rfl (pS (pZ (pZ (pZ (pZ (pZ (pZ (pZ (pZ (pZ (pZ (pZ (pZ (pZ (pZ (pZ (pZ (pZ (pZ (pZ (pZ (pZ (pZ hsz)))))))))))))))))))))) (by decide)) (pO (by decide) (pO (by decide) (pS (pZ (pZ (pZ (pZ (pZ (pZ (pZ (pZ (pZ (pZ (pZ (pZ (pZ (pZ (pZ (pZ (pZ (pZ (pZ (pZ hsz)))))))))))))))))))) (by decide)))) (store56 hc2 hf2)) ?_
      refine v_done ?_
      rw [put_comm _ 62 49 _ _ (by decide)]
      exact K _ _ _ _ _ _ _ _ _ _ _ _ _ _ _ _ _ _ _ _ _ _ _ A2 c2 w2 (Lib.hid o2) (Lib.hid (Bel.trans (Bel.drew w) b2))
  · refine u_val (i := 1) (d := some 44) (v := (.slice (some ⟨(w.drew.alloc (.cells #[.int .i64 f, .int .i64 (t + 1)] 38)).heap.size, 0, none⟩) 0 0)) (w' := (w.drew.alloc (.cells #[.int .i64 f, .int .i64 (t + 1)] 38)).alloc (.cells #[] 38)) h1 rfl (wanted_none rfl) rfl (x_empty56 rfl) (Bel.alloc_ (Bel.alloc_ (Bel.refl _) _) _) ?_
    obtain ⟨A3, c3, w3, r3, o3, b3, k3⟩ := sp_copy (W0 := w.drew) (cb := cb) (Bel.alloc_ (Bel.alloc_ (Bel.refl _) (.cells #[.int .i64 f, .int .i64 (t + 1)] 38)) (.cells #[] 38)) (own_base (emptyLit _ _ _) (fun g hg => by have := ((emptyLit (w.drew.alloc (.cells #[.int .i64 f, .int .i64 (t + 1)] 38)) 38 2).lt g hg).1; simp at this; exact Nat.le_of_succ_le this)) (rdP_up (Lib.hid hr) (Bel.trans hB0 (Bel.alloc_ (Bel.alloc_ (Bel.refl _) _) _))) hm hl
    refine u_val (i := 6) (d := some 49) (v := (.slice A3 m c3)) (w' := w3) h6 rfl (wanted_none rfl) rfl (exec_append rfl (pS (pZ (pZ (pZ (pZ (pZ (pZ (pZ (pZ (pZ (pZ (pZ (pZ (pZ (pZ (pZ (pZ (pZ (pZ hsz)))))))))))))))))) (by decide)) (pO (by decide) (pO (by decide) (pO (by decide) (pO (by decide) (pO (by decide) (pO (by decide) (pO (by decide) (pO (by decide) (pO (by decide) (pO (by decide) (pO (by decide) (pO (by decide) (pO (by decide) (pO (by decide) (pS (pZ (pZ (pZ (pZ hsz)))) (by decide)))))))))))))))) r3) (b3) ?_
    obtain ⟨A2, c2, w2, r2, o2, b2⟩ := sp_more (W0 := w.drew) b3 o3 (k3 _ _ _ (by simp) ((Blk.new w.drew 38 #[.int .i64 f, .int .i64 (t + 1)]).alloc _)) hl
    refine u_late (d := some 63) (v := (.slice A2 (m + 1) c2)) (w' := w2) h20 (wanted_none rfl) rfl (exec_append rfl (pS (pZ (pZ (pZ (pZ (pZ (pZ (pZ (pZ (pZ (pZ (pZ (pZ (pZ (pZ (pZ (pZ (pZ (pZ (pZ hsz))))))))))))))))))) (by decide)) (pO (by decide) (pO (by decide) (pS (pZ (pZ (pZ (pZ (pZ (pZ (pZ (pZ (pZ (pZ (pZ (pZ (pZ (pZ (pZ (pZ (pZ hsz))))))))))))))))) (by decide)))) r2) hlt ?_
    have hc2 : w2.cell? ⟨gA, x + 2, none⟩ = some (.slice B m cb) := kc hbr _ b2
    have hf2 : w2.frozen? ⟨gA, x + 2, none⟩ = false := (Blk.below (show Blk w.drew gA 58 cs from hK) b2 hK.lt).frozen _
    refine v_one (i := 21) (d := some 64) (v := (.pointer (some ⟨gA, x, none⟩))) h21 (wanted_none rfl) rfl (x_nil rfl (pO (by decide) (pO (by decide) (pO (by decide) (pO (by decide) (pO (by decide) (pO (by decide) (pO (by decide) (pO (by decide) (pO (by decide) (pO (by decide) (pO (by decide) (pO (by decide) (pO (by decide) (pO (by decide) (pO (by decide) (pO (by decide) (pO (by decide) (pO (by decide) (pO (by decide) (pO (by decide) (pS hsz (by decide))))))))))))))))))))))) ?_
    refine v_one (i := 22) (d := some 65) (v := (.pointer (some ⟨gA, x + 2, none⟩))) h22 (wanted_none rfl) rfl (x_field rfl (pS (pZ (pZ (pZ (pZ (pZ (pZ (pZ (pZ (pZ (pZ (pZ (pZ (pZ (pZ (pZ (pZ (pZ (pZ (pZ (pZ (pZ hsz))))))))))))))))))))) (by decide)) (field58b _ gA _)) ?_
    refine v_unit (i := 23) (w' := w2.setCell ⟨gA, x + 2, none⟩ (.slice A2 (m + 1) c2)) h23 (wanted_none rfl) rfl (exec_store rfl (pS (pZ (pZ (pZ (pZ (pZ (pZ (pZ (pZ (pZ (pZ (pZ (pZ (pZ (pZ (pZ (pZ (pZ (pZ (pZ (pZ (pZ (pZ hsz)))))))))))))))))))))) (by decide)) (pO (by decide) (pO (by decide) (pS (pZ (pZ (pZ (pZ (pZ (pZ (pZ (pZ (pZ (pZ (pZ (pZ (pZ (pZ (pZ (pZ (pZ (pZ (pZ (pZ hsz)))))))))))))))))))) (by decide)))) (store56 hc2 hf2)) ?_
    refine v_done ?_
    rw [put_comm _ 62 44 _ _ (by decide)]
    rw [put_comm _ 62 49 _ _ (by decide)]
    exact K _ _ _ _ _ _ _ _ _ _ _ _ _ _ _ _ _ _ _ _ _ _ _ A2 c2 w2 (Lib.hid o2) (Lib.hid (Bel.trans (Bel.drew w) b2))
end Go.Proofs.Ytagkdkkpgcolkaa
namespace Go.Proofs.Ytagkdkkpgcolkaa
open Go.RowKit
set_option linter.unusedVariables false
set_option linter.unusedSimpArgs false
theorem du_cellsC {w W : World} {gD : Nat} {ds : List Du} (h : Hid (RdDu w (some ⟨gD, 0, none⟩) ds)) (hb : Below w.heap.size w W) {i : Nat} (hi : i < ds.length) :
    ∃ B cb, W.cell? ⟨gD, i * 3, none⟩ = some (.int .i64 (uS ds i)) ∧ W.cell? ⟨gD, i * 3 + 1, none⟩ = some (.int .i64 (uD ds i)) ∧ W.cell? ⟨gD, i * 3 + 2, none⟩ = some (.slice B (uP ds i).length cb) ∧ RdPr W B (uP ds i) ∧ (uP ds i).length ≤ 9223372036854775807 := by
  obtain ⟨g, e, hg, hc⟩ := h.out (by omega)
  injection e with e
  injection e with e
  subst e
  obtain ⟨k0, k1, B, cb, k2, hr, hl, hm⟩ := hc i hi
  exact ⟨B, cb, (hb.cell (p := ⟨gD, i * 3, none⟩) hg).trans k0, (hb.cell (p := ⟨gD, i * 3 + 1, none⟩) hg).trans k1, (hb.cell (p := ⟨gD, i * 3 + 2, none⟩) hg).trans k2, hr.below hb, by omega⟩
set_option maxRecDepth 100000 in
set_option maxHeartbeats 6400000 in
theorem same_any (A A' : Option Addr) (c c' n : Nat) (ds : List Du) (w : World) (hn : Hid (n = ds.length)) (h1 : Hid (RdDu w A ds)) (h2 : Hid (RdDu w A' ds)) (hl : n ≤ 2000) :
    Calls Try.prog 26 #[.slice A n c, .slice A' n c'] w (RetB true w) := by
  have hei := run_eqIvSame
  have hnn : ((n : Int) == n) = true := by simp
  go_enter Try.func26, Try.ntmps26
  go_wp2
  clear hnn
  go_loopw [5] (fun i wr => ∃ k : Nat, k ≤ n ∧ i = .int .i64 k ∧ Below w.heap.size w wr) (fun i _ => n - (intOf i).toNat)
  case atStart => exact ⟨0, Nat.zero_le _, rfl, Below.refl _ _⟩
  case round =>
    obtain ⟨k, hk, rfl, hbk⟩ := hrel
    have HBk := Lib.hid hbk
    clear hbk
    by_cases hkn : k < n
    · have hkd : k < ds.length := by rw [← hn.out]; exact hkn
      obtain ⟨gD, hA⟩ := du_addr h1 hkd
      obtain ⟨gE, hA'⟩ := du_addr h2 hkd
      subst hA hA'
      obtain ⟨mi, Hmi⟩ : ∃ x, Hid (x = (uP ds k).length) := ⟨_, Lib.hid rfl⟩
      obtain ⟨B, cb, d0, d1, d2, _, hmm⟩ := du_cellsC h1 HBk.out hkd
      obtain ⟨B', cb', e0, e1, e2, _, _⟩ := du_cellsC h2 HBk.out hkd
      rw [← Hmi.out] at d2 e2 hmm
      have HD0 := Lib.hid d0
      have HD1 := Lib.hid d1
      have HD2 := Lib.hid d2
      have HE0 := Lib.hid e0
      have HE1 := Lib.hid e1
      have HE2 := Lib.hid e2
      clear d0 d1 d2 e0 e1 e2
      go_upto_region 6 with (fail)
      refine same6 6 (by kernel_rfl) rfl rfl rfl rfl rfl rfl rfl rfl rfl rfl rfl rfl rfl rfl rfl rfl rfl rfl rfl rfl rfl rfl rfl rfl rfl rfl rfl rfl rfl rfl rfl rfl rfl rfl rfl rfl rfl rfl rfl (show 118 ≤ 118 from by decide) (fun _ _ _ _ _ h => h) rfl rfl rfl hkn HD0.out HD1.out HD2.out HE0.out HE1.out HE2.out ?_
      intro z0 z1 z2 z3 z4 z5 z6 z7 z8 z9 z10 z11 z12 z13 z14 z15 z16 z17 z18 z19 z20 z21 z22 z23 z24 z25 z26 z27 z28 z29 z30 z31 z32 z33 z34 z35 z36 z37 w6 HB6
      simp only [Act.put, List.setIfInBounds_toArray, List.set_cons_zero, List.set_cons_succ]
      have HBk6 : Hid (Below w.heap.size w w6) := Lib.hid (HBk.out.trans (HB6.out.mono HBk.out.size))
      clear HD0 HD1 HD2 HE0 HE1 HE2 HB6 HBk
      go_wp2
      go_loopw [6] (fun j wq => ∃ q : Nat, q ≤ mi ∧ j = .int .i64 q ∧ Below w.heap.size w wq) (fun j _ => mi - (intOf j).toNat)
      case atStart => exact ⟨0, Nat.zero_le _, rfl, HBk6.out⟩
      case round =>
        obtain ⟨q, hq, rfl, hbq⟩ := hrel
        have HBq := Lib.hid hbq
        clear hbq
        obtain ⟨B, cb, _, _, d2, hpr, _⟩ := du_cellsC h1 HBq.out hkd
        rw [← Hmi.out] at d2
        by_cases hqm : q < mi
        · have hqu : q < (uP ds k).length := by rw [← Hmi.out]; exact hqm
          obtain ⟨B', cb', _, _, e2, hpr', _⟩ := du_cellsC h2 HBq.out hkd
          rw [← Hmi.out] at e2
          obtain ⟨gP, oP, B2, m2, c2, rfl, hpa⟩ := pr_cells (Lib.hid hpr) (Below.refl _ _) hqu
          obtain ⟨gQ, oQ, B3, m3, c3, rfl, hpb⟩ := pr_cells (Lib.hid hpr') (Below.refl _ _) hqu
          obtain ⟨bs, Hbs⟩ : ∃ x, Hid (x = pB (uP ds k) q) := ⟨_, Lib.hid rfl⟩
          obtain ⟨f, Hf⟩ : ∃ x, Hid (x = pF (uP ds k) q) := ⟨_, Lib.hid rfl⟩
          obtain ⟨t, Ht⟩ : ∃ x, Hid (x = pT (uP ds k) q) := ⟨_, Lib.hid rfl⟩
          rw [← Hbs.out, ← Hf.out, ← Ht.out] at hpa hpb
          have hm23 : m3 = m2 := by rw [← hpa.len, ← hpb.len]
          subst hm23
          have Hbl : Hid (m3 = bs.length) := Lib.hid hpa.len.symm
          have hm3 : m3 ≤ 9223372036854775807 := Nat.le_trans hpa.cap.1 hpa.cap.2
          have HD2 := Lib.hid d2
          have HE2 := Lib.hid e2
          have HPa := Lib.hid hpa
          have HPb := Lib.hid hpb
          clear hpr hpr' hpa hpb e2
          go_upto_region 11 with (fail)
          clear d2
          refine same11 (f := f) (t := t) 11 (by kernel_rfl) rfl rfl rfl rfl rfl rfl rfl rfl rfl rfl rfl rfl rfl rfl rfl rfl rfl rfl rfl rfl (show 118 ≤ 118 from by decide) (fun _ _ _ _ _ h => h) rfl rfl rfl rfl hkn hqm HD2.out HE2.out HPa.out.c0 HPa.out.c1 HPa.out.c2 HPb.out.c0 HPb.out.c1 HPb.out.c2 ?_
          intro z0 z1 z2 z3 z4 z5 z6 z7 z8 z9 z10 z11 z12 z13 z14 z15 g7 g8 w7 HB7 HB8 HBe
          simp only [Act.put, List.setIfInBounds_toArray, List.set_cons_zero, List.set_cons_succ]
          have HBq7 : Hid (Below w.heap.size w w7) := Lib.hid (HBq.out.trans (HBe.out.mono HBq.out.size))
          have HRa : Hid (RdP w7 w7.heap.size B2 bs) := Lib.hid (rdP_up (Lib.hid HPa.out.rd) HBe.out)
          have HRb : Hid (RdP w7 w7.heap.size B3 bs) := Lib.hid (rdP_up (Lib.hid HPb.out.rd) HBe.out)
          have x0 : w7.cell? ⟨g7, 0, none⟩ = some (.int .i64 f) := by have := HB7.out.cell 0; simpa using this
          have x1 : w7.cell? ⟨g7, 1, none⟩ = some (.int .i64 t) := by have := HB7.out.cell 1; simpa using this
          have x2 : w7.cell? ⟨g7, 2, none⟩ = some (.slice B2 m3 c2) := by have := HB7.out.cell 2; simpa using this
          have y0 : w7.cell? ⟨g8, 0, none⟩ = some (.int .i64 f) := by have := HB8.out.cell 0; simpa using this
          have y1 : w7.cell? ⟨g8, 1, none⟩ = some (.int .i64 t) := by have := HB8.out.cell 1; simpa using this
          have y2 : w7.cell? ⟨g8, 2, none⟩ = some (.slice B3 m3 c3) := by have := HB8.out.cell 2; simpa using this
          clear HD2 HE2 HPa HPb HBe HBq
          have hmm3 : ((m3 : Int) == m3) = true := by simp
          go_wp2
          clear x0 x1 x2 y0 y1 y2 hmm3
          go_loopw [9] (fun xv wx => ∃ x : Nat, x ≤ m3 ∧ xv = .int .i64 x ∧ Below w7.heap.size w7 wx) (fun xv _ => m3 - (intOf xv).toNat)
          case atStart => exact ⟨0, Nat.zero_le _, rfl, Below.refl _ _⟩
          case round =>
            obtain ⟨x, hx, rfl, hbx⟩ := hrel
            have HBx := Lib.hid hbx
            clear hbx
            have HB7x := Lib.hid (HB7.out.below HBx.out HB7.out.lt)
            have HB8x := Lib.hid (HB8.out.below HBx.out HB8.out.lt)
            have b2 : wr.cell? ⟨g7, 2, none⟩ = some (.slice B2 m3 c2) := by have := HB7x.out.cell 2; simpa using this
            by_cases hxm : x < m3
            · have hxb : x < bs.length := by rw [← Hbl.out]; exact hxm
              obtain ⟨gB, oB, rfl, _, ha1, ha2⟩ := (rdP_up HRa HBx.out).all (by omega)
              obtain ⟨gC, oC, rfl, _, hc1, hc2⟩ := (rdP_up HRb HBx.out).all (by omega)
              have HA1 := Lib.hid (ha1 x hxb)
              have HA2 := Lib.hid (ha2 x hxb)
              have HC1 := Lib.hid (hc1 x hxb)
              have HC2 := Lib.hid (hc2 x hxb)
              clear ha1 ha2 hc1 hc2
              go_upto_region 17 with (fail)
              clear b2
              refine same17 (u := fst2 bs x) (v := snd2 bs x) 17 (by kernel_rfl) rfl rfl rfl rfl rfl rfl rfl rfl rfl rfl rfl (show 118 ≤ 118 from by decide) (fun _ _ _ _ _ h => h) rfl rfl rfl hxm (HB7x.out.cell 2) (HB8x.out.cell 2) HA1.out HA2.out HC1.out HC2.out ?_
              intro z0 z1 z2 z3 z4 z5 z6 z7 z8 z9 w9 HB9
              simp only [Act.put, List.setIfInBounds_toArray, List.set_cons_zero, List.set_cons_succ]
              have HBx9 : Hid (Below w7.heap.size w7 w9) := Lib.hid (HBx.out.trans (HB9.out.mono HBx.out.size))
              clear HA1 HA2 HC1 HC2 HB7x HB8x HB9 HBx
              go_wp2
              go_roundw
              case rel => exact ⟨x + 1, by omega, by go_num, HBx9.out⟩
              case measure => simp [intOf]; omega
            · have HBo : Hid (Below w.heap.size w wr) := Lib.hid (HBq7.out.trans (HBx.out.mono HBq7.out.size))
              obtain rfl : x = m3 := by omega
              clear HB7x HB8x
              go_wp2
              clear b2
              go_roundw
              case rel => exact ⟨q + 1, by omega, by go_num, HBo.out⟩
              case measure => simp [intOf]; omega
        · obtain rfl : q = mi := by omega
          clear hpr
          go_wp2
          clear d2
          go_roundw
          case rel => exact ⟨k + 1, by omega, by go_num, HBq.out⟩
          case measure => simp [intOf]; omega
    · obtain rfl : k = n := by omega
      go_wp2
      go_ret
      exact ⟨rfl, HBk.out⟩
end Go.Proofs.Ytagkdkkpgcolkaa
namespace Go.Proofs.Ytagkdkkpgcolkaa
open Go.RowKit
set_option linter.unusedVariables false
set_option linter.unusedSimpArgs false
theorem mC_setG {l : List M3} {i : Nat} (h : i < l.length) (x y : Int) (v : Value) (j : Nat) : mC (l.set i (x, y, v)) j = if j = i then v else mC l j := by
  by_cases hj : j = i
  · subst hj
    rw [if_pos rfl]
    unfold mC
    simp only [List.getD_eq_getElem?_getD]
    simp [h]
  · rw [if_neg hj]
    unfold mC
    simp only [List.getD_eq_getElem?_getD]
    rw [List.getElem?_set_ne (Ne.symm hj)]
theorem flatV_setB (l : List M3) (y : Int) : ∀ i, i < l.length → (flatV l).set (i * 3 + 1) (.int .i64 y) = flatV (l.set i (mA l i, y, mC l i)) := by
  induction l with
  | nil => intro i h; simp at h
  | cons a t ih =>
    intro i h
    have e : flatV (a :: t) = .int .i64 a.1 :: .int .i64 a.2.1 :: a.2.2 :: flatV t := by simp [flatV]
    rw [e]
    cases i with
    | zero => simp [mA, mC, flatV]
    | succ i =>
      have h1 := ih i (by simpa using h)
      have e1 : (i + 1) * 3 + 1 = (i * 3 + 1) + 3 := by omega
      rw [e1]
      simp only [List.set_cons_succ, h1]
      simp [flatV, mA, mC]
/-- the breaks of a presence in memory, not on the tape -/
def InB (w : World) (g : Nat) (v : Value) : Prop := ∃ B m cb bs, v = .slice B m cb ∧ RdP w w.heap.size B bs ∧ bs.length = m ∧ m ≤ 3000 ∧ m ≤ cb ∧ cb ≤ 9223372036854775807 ∧ ∀ b off, B = some ⟨b, off, none⟩ → b ≠ g
theorem InB.up {w W : World} {g : Nat} {v : Value} (h : InB w g v) (ho : Only g w W) : InB W g v := by
  obtain ⟨B, m, cb, bs, h1, h2, h3, h4, h5, h6, h7⟩ := h
  exact ⟨B, m, cb, bs, h1, Rd.more (Rd.only' h2 ho (Nat.le_refl _) h7) ho.size, h3, h4, h5, h6, h7⟩
theorem InB.of_own {w : World} {g base m cb : Nat} {M : Int} {B : Option Addr} {bs : List (Int × Int)} (h : w.ownsRow base 38 2 (.slice B m cb) m (flat2 bs)) (hm : m = bs.length) (hl : m ≤ 3000) (hD : Deck w g M) : InB w g (.slice B m cb) := by
  subst hm
  obtain ⟨dcs, hd⟩ := hD.blk
  refine ⟨B, _, cb, bs, rfl, own_rd2 h, rfl, hl, (own_cap h).1, (own_cap h).2, ?_⟩
  rintro b off rfl
  rcases h.2 with ⟨hv, _⟩ | ⟨g', cap, cur, hv, _, hh, _⟩
  · injection hv with hv
    cases hv
  · injection hv with hv
    injection hv with hv
    injection hv with hb _ _
    subst hb
    exact Blk.ne_ (t := 38) hh hd (by decide)
theorem InB.nil (w : World) (g : Nat) : InB w g (.slice none 0 0) := ⟨none, 0, 0, [], rfl, Rd.none_, rfl, by omega, by omega, by omega, fun b off h => by cases h⟩
/-- presences out of their row -/
theorem rdPr_of {W0 : World} {g base c : Nat} {A : Option Addr} {ms : List M3} (hown : W0.ownsRow base 58 3 (.slice A ms.length c) ms.length (flatV ms)) (hg : g < base) (hin : ∀ k, k < ms.length → InB W0 g (mC ms k)) :
    ∃ ps : List Pr, ps.length = ms.length ∧ ∀ W, Only g W0 W → RdPr W A ps := by
  have hch : ∀ k, ∃ bs : List (Int × Int), k < ms.length → ∃ B m cb, mC ms k = .slice B m cb ∧ RdP W0 W0.heap.size B bs ∧ bs.length = m ∧ m ≤ 3000 ∧ m ≤ cb ∧ cb ≤ 9223372036854775807 ∧ ∀ b off, B = some ⟨b, off, none⟩ → b ≠ g := by
    intro k
    by_cases hk : k < ms.length
    · obtain ⟨B, m, cb, bs, h⟩ := hin k hk
      exact ⟨bs, fun _ => ⟨B, m, cb, h⟩⟩
    · exact ⟨[], fun h => absurd h hk⟩
  obtain ⟨f, hf⟩ := Classical.axiomOfChoice hch
  refine ⟨(List.range ms.length).map (fun k => (mA ms k, mB ms k, f k)), by simp, fun W ho hp => ?_⟩
  have hp' : 0 < ms.length := by simpa using hp
  have hown' : W.ownsRow base 58 3 (.slice A ms.length c) ms.length (flatV ms) := World.ownsRow.kept hown ho (.inr (fun e => by have := (hown.lt g e).1; omega))
  obtain ⟨gr, cap, hv, _, hlt⟩ := hown'.form hp'
  injection hv with hA _ _
  refine ⟨gr, 0, hA, hlt, fun i hi => ?_⟩
  have hi' : i < ms.length := by simpa using hi
  obtain ⟨B, m, cb, e3, hr, hm, _, hc1, hc2, hne⟩ := hf i hi'
  have hc := hown'.cells (g := gr) (by rw [hA]; rfl)
  have hfl := flatV_get ms i hi'
  have a0 := hc _ _ hfl.1
  have a1 := hc _ _ hfl.2.1
  have a2 := hc _ _ hfl.2.2
  rw [Go.WideShapes.add_plain, Nat.zero_add] at a0 a1 a2
  rw [e3] at a2
  have p1 : pF ((List.range ms.length).map (fun k => (mA ms k, mB ms k, f k))) i = mA ms i := by simp [pF, hi']
  have p2 : pT ((List.range ms.length).map (fun k => (mA ms k, mB ms k, f k))) i = mB ms i := by simp [pT, hi']
  have p3 : pB ((List.range ms.length).map (fun k => (mA ms k, mB ms k, f k))) i = f i := by simp [pB, hi']
  rw [p1, p2, p3]
  exact ⟨B, m, cb, by rw [Nat.zero_add]; exact a0, by rw [Nat.zero_add]; exact a1, by rw [Nat.zero_add]; exact a2, Rd.more (Rd.only' hr ho (Nat.le_refl _) hne) ho.size, hm, hc1, hc2⟩
theorem own_src {w : World} {base size n c : Nat} {e : TypeId} {A : Option Addr} {xs : List Value} (h : w.ownsRow base e size (.slice A n c) n xs) : Src w size A n xs := by
  refine ⟨h.1, fun hp => ?_⟩
  obtain ⟨g, cap, hv, _, _⟩ := h.form hp
  injection hv with hA _ _
  exact ⟨_, hA, h.cells (g := g) (by rw [hA]; rfl)⟩
theorem flatV_one {ms : List M3} (h : ∀ k, k < ms.length → ∃ B m c, mC ms k = .slice B m c) : ∀ u ∈ flatV ms, u.oneCell' = true := by
  intro u hu
  unfold flatV at hu
  rw [List.mem_flatMap] at hu
  obtain ⟨x, hx, hu⟩ := hu
  obtain ⟨k, hk, rfl⟩ := List.getElem_of_mem hx
  obtain ⟨B, m, c, e⟩ := h k hk
  have e2 : (ms[k]).2.2 = .slice B m c := by
    rw [← e]
    simp [mC, hk]
  simp at hu
  rcases hu with rfl | rfl | rfl
  · rfl
  · rfl
  · rw [e2]; rfl
/-- in the middle of the spoiling: the copy's row, the tape -/
structure SQ (w : World) (g : Nat) (M : Int) (A : Option Addr) (c : Nat) (ms : List M3) (W : World) : Prop where
  deck : Deck W g M
  only : Only g w W
  own : W.ownsRow w.heap.size 58 3 (.slice A ms.length c) ms.length (flatV ms)
section
variable {w W W' : World} {g c : Nat} {M M' : Int} {A : Option Addr} {ms : List M3}
theorem SQ.draw (h : SQ w g M A c ms W) (hg : g < w.heap.size) (ho : Only g W W') (hD : Deck W' g M') : SQ w g M' A c ms W' :=
  ⟨hD, h.only.trans ho, World.ownsRow.kept h.own ho (.inr (fun e => by have := (h.own.lt g e).1; omega))⟩
theorem SQ.setB {gA : Nat} (h : SQ w g M (some ⟨gA, 0, none⟩) c ms W) (hg : g < w.heap.size) {i : Nat} (hi : i < ms.length) (y : Int) : SQ w g M (some ⟨gA, 0, none⟩) c (ms.set i (mA ms i, y, mC ms i)) (W.setCell ⟨gA, i * 3 + 1, none⟩ (.int .i64 y)) := by
  have hk := (h.own.lt gA rfl).1
  have hO : Only gA W (W.setCell ⟨gA, i * 3 + 1, none⟩ (.int .i64 y)) := (Only.refl gA W).setCell (p := ⟨gA, i * 3 + 1, none⟩) (.inl rfl) _
  refine ⟨h.deck.only hO (by omega), h.only.setCell (p := ⟨gA, i * 3 + 1, none⟩) (.inr hk) _, ?_⟩
  rw [List.length_set, ← flatV_setB ms y i hi]
  exact (h.own.stored (i * 3 + 1) (.int .i64 y)).1
theorem SQ.setC {gA : Nat} (h : SQ w g M (some ⟨gA, 0, none⟩) c ms W) (hg : g < w.heap.size) (hb : Below W.heap.size W W') {i : Nat} (hi : i < ms.length) (v : Value) : SQ w g M (some ⟨gA, 0, none⟩) c (ms.set i (mA ms i, mB ms i, v)) (W'.setCell ⟨gA, i * 3 + 2, none⟩ v) := by
  have hk := (h.own.lt gA rfl).1
  have hO : Only gA W' (W'.setCell ⟨gA, i * 3 + 2, none⟩ v) := (Only.refl gA W').setCell (p := ⟨gA, i * 3 + 2, none⟩) (.inl rfl) _
  have hown := own_chg h.own (Chg.of_below' hb (S := fun _ => False) |>.mono (fun _ _ h => h)) (fun _ _ h => h)
  refine ⟨(h.deck.below hb h.deck.lt).only hO (by omega), (h.only.trans (Only.of_below hb g)).setCell (p := ⟨gA, i * 3 + 2, none⟩) (.inr hk) _, ?_⟩
  rw [List.length_set, ← flatV_set ms v i hi]
  exact (hown.stored (i * 3 + 2) v).1
theorem SQ.app {A' : Option Addr} {c' : Nat} {x : M3} {ob : Obj} (h : SQ w g M A c ms W) (hg : g < w.heap.size) (hown : W'.ownsRow w.heap.size 58 3 (.slice A' (ms.length + 1) c') (ms.length + 1) (flatV ms ++ [.int .i64 x.1, .int .i64 x.2.1, x.2.2])) (hgr : (W.alloc ob).grownBy W' (Value.slice A ms.length c).ownBlock) : SQ w g M A' c' (ms ++ [x]) W' := by
  have hbel : Below w.heap.size (W.alloc ob) W' := (Below.refl w.heap.size _).grown hgr (by have := h.only.size; simp; omega) (fun k hk => (h.own.lt k hk).1)
  exact ⟨(h.deck.alloc ob).below hbel hg, only_bel (h.only.alloc ob) hbel, by rw [List.length_append, flatV_snoc]; exact hown⟩
end
def SpPr (g : Nat) (M : Int) (w : World) (e : Ending) (w' : World) : Prop := ∃ A c n ps, e = .returned (.slice A n c) ∧ n = ps.length ∧ n ≤ 8 ∧ (∀ W, Only g w' W → RdPr W A ps) ∧ Only g w w' ∧ Deck w' g M
theorem SQ.fin {w W : World} {g c : Nat} {M : Int} {A : Option Addr} {ms : List M3} (h : SQ w g M A c ms W) (hg : g < w.heap.size) (hin : ∀ k, k < ms.length → InB W g (mC ms k)) (hl : ms.length ≤ 8) : SpPr g M w (.returned (.slice A ms.length c)) W := by
  obtain ⟨ps, h1, h2⟩ := rdPr_of h.own hg hin
  exact ⟨A, c, ms.length, ps, rfl, h1.symm, hl, h2, h.only, h.deck⟩
set_option maxRecDepth 100000 in
set_option maxHeartbeats 6400000 in
theorem spoilPr_any (g : Nat) (N : Int) (A : Option Addr) (c n base : Nat) (ms : List M3) (w : World) (hn : Hid (n = ms.length)) (hn7 : n ≤ 7) (hD : Deck w g N) (hN : N ≤ 800000) (hown : Hid (w.ownsRow base 58 3 (.slice A n c) n (flatV ms))) (hin : Hid (∀ k, k < ms.length → InB w g (mC ms k))) (hM : Hid (∀ k, k < ms.length → ∀ B m cb, mC ms k = .slice B m cb → m ≤ 2000)) (hB : Hid (∀ k, k < ms.length → 0 ≤ mB ms k ∧ mB ms k ≤ 1000000000)) :
    Calls Try.prog 22 #[.pointer (some ⟨g, 0, none⟩), .slice A n c] w (SpPr g (N + 2) w) := by
  have hgl : g < w.heap.size := hD.lt
  have HD := Lib.hid hD
  clear hD
  obtain ⟨ip, hip, hip0, hip1, hip2⟩ := info_parts infoPr
  have HIP := Lib.hid hip
  have HIP0 := Lib.hid hip0
  have HIP1 := Lib.hid hip1
  have HIP2 := Lib.hid hip2
  clear hip hip0 hip1 hip2
  have HS0 : Hid (Src (w.alloc (.cells #[] 58)) 3 A n (flatV ms)) := Lib.hid ((own_src hown.out).alloc _)
  have HO0 : Hid (∀ u ∈ flatV ms, u.oneCell' = true) := Lib.hid (flatV_one (fun k hk => by obtain ⟨B, m, cb, bs, e, _⟩ := hin.out k hk; exact ⟨B, m, cb, e⟩))
  have HE0 : Hid ((w.alloc (.cells #[] 58)).ownsRow w.heap.size 58 3 (.slice (some ⟨w.heap.size, 0, none⟩) 0 0) 0 []) := Lib.hid (emptyLit _ _ _)
  go_enter Try.func22, Try.ntmps22
  go_wp2_with (at_builtin; refine wpList_app rfl (.tmp 7) (.tmp 8) 45 rfl w.heap.size 58 ip _ 3 40 undPr HIP.out HIP0.out HIP1.out HIP2.out rfl (by decide) _ 0 _ rfl HE0.out _ n c _ rfl HS0.out HO0.out ?_ ?_ ?_ ?_)
  · unfold maxLen; omega
  · omega
  · simp
  intro A1 c1 w1 Ho1 Hg1 _
  have HSQ1 : Hid (SQ w g N A1 c1 ms w1) := Lib.hid (by
    have hbel : Below w.heap.size (w.alloc (.cells #[] 58)) w1 := (Below.refl w.heap.size _).grown Hg1.out (by simp) (fun k hk => (HE0.out.lt k hk).1)
    refine ⟨(HD.out.alloc _).below hbel hgl, only_bel ((Only.refl g w).alloc _) hbel, ?_⟩
    have h := Ho1.out
    rw [hn.out] at h
    exact h)
  clear Ho1 Hg1 HS0 HO0 HE0 HD hown
  by_cases h0 : n = 0
  · subst h0
    have hms : ms = [] := List.eq_nil_of_length_eq_zero hn.out.symm
    subst hms
    have H3s : Hid (Src (w1.alloc (.cells #[.int .i64 (-1), .int .i64 5, .slice none 0 0] 58)) 3 (some ⟨w1.heap.size, 0, none⟩) 1 [.int .i64 (-1), .int .i64 5, .slice none 0 0]) := Lib.hid (three_src w1 _ _ _ _)
    have H3o : Hid (∀ u ∈ [Value.int .i64 (-1), Value.int .i64 5, .slice none 0 0], u.oneCell' = true) := Lib.hid (three_one _ _ _ _ _)
    have HB1 : Hid (w.heap.size ≤ w1.heap.size) := Lib.hid HSQ1.out.only.size
    go_wp2_with (at_builtin; refine wpList_app rfl (.tmp 13) (.tmp 16) 45 rfl w.heap.size 58 ip _ 3 40 undPr HIP.out HIP0.out HIP1.out HIP2.out rfl (by decide) _ 0 _ rfl (HSQ1.out.own.alloc _) _ 1 1 _ rfl H3s.out H3o.out ?_ ?_ ?_ ?_)
    · unfold maxLen; omega
    · omega
    · have := HB1.out; simp; omega
    intro A2 c2 w2 Ho2 Hg2 _
    have HSQ2 : Hid (SQ w g N A2 c2 ([] ++ [(-1, 5, .slice none 0 0)]) w2) := Lib.hid (HSQ1.out.app (x := (-1, 5, .slice none 0 0)) hgl Ho2.out Hg2.out)
    have HF : Hid (SpPr g (N + 2) w (.returned (.slice A2 1 c2)) w2) := Lib.hid (by
      obtain ⟨A', c', n', ps, h1, h2, h3, h4, h5, h6⟩ := HSQ2.out.fin hgl (fun k hk => by
        obtain rfl : k = 0 := by simpa using hk
        exact InB.nil _ _) (by simp)
      exact ⟨A', c', n', ps, h1, h2, h3, h4, h5, h6.more (by omega)⟩)
    clear H3s H3o Ho2 Hg2
    go_wp2
    exact bodyPost_ret (v := .slice A2 1 c2) (by simp [results, Try.results22, go_sem]) rfl HF.out
  · have hnb : ((n : Int) == 0) = false := by rw [beq_eq_false_iff_ne]; omega
    go_wp2_with fail
    refine (next_any g N n _ HSQ1.out.deck (by omega) (by omega) (by omega)).mono ?_
    rintro e w3 ⟨iv, rfl, hiv, ho, hD⟩
    have HSQ3 := Lib.hid (HSQ1.out.draw hgl ho hD)
    clear ho hD HSQ1 hnb
    obtain ⟨i, rfl⟩ : ∃ i : Nat, iv = i := ⟨iv.toNat, by omega⟩
    have hi : i < ms.length := by rw [← hn.out]; omega
    obtain ⟨gA, hA⟩ : ∃ g, A1 = some ⟨g, 0, none⟩ := by
      obtain ⟨g, cap, hv, _, _⟩ := HSQ3.out.own.form (by omega)
      injection hv with hA _ _
      exact ⟨g, hA⟩
    subst hA
    have hin2 : (i : Int) < n := by omega
    go_wp2_with fail
    refine (next_any g (N + 1) 4 _ HSQ3.out.deck (by omega) (by omega) (by omega)).mono ?_
    rintro e w4 ⟨v, rfl, hv, ho, hD⟩
    have HSQ4 : Hid (SQ w g (N + 2) (some ⟨gA, 0, none⟩) c1 ms w4) := Lib.hid (by
      have h := HSQ3.out.draw hgl ho hD
      exact ⟨h.deck.more (by omega), h.only, h.own⟩)
    clear ho hD HSQ3
    have hc := HSQ4.out.own.cells (g := gA) rfl
    have hfl := flatV_get ms i hi
    have c0 : w4.cell? ⟨gA, i * 3, none⟩ = some (.int .i64 (mA ms i)) := by have := hc _ _ hfl.1; simpa [Go.WideShapes.add_plain] using this
    have c1' : w4.cell? ⟨gA, i * 3 + 1, none⟩ = some (.int .i64 (mB ms i)) := by have := hc _ _ hfl.2.1; simpa [Go.WideShapes.add_plain] using this
    have cc2 : w4.cell? ⟨gA, i * 3 + 2, none⟩ = some (mC ms i) := by have := hc _ _ hfl.2.2; simpa [Go.WideShapes.add_plain] using this
    have f1 := World.ownsRow.frozenAt HSQ4.out.own (i * 3 + 1)
    have HC0 := Lib.hid c0
    have HC1 := Lib.hid c1'
    have HC2 := Lib.hid cc2
    have HIn : Hid (∀ k, k < ms.length → InB w4 g (mC ms k)) := Lib.hid (fun k hk => (hin.out k hk).up HSQ4.out.only)
    have HML : Hid (ms.length ≤ 8) := Lib.hid (by rw [← hn.out]; omega)
    have HFB : Hid (∀ y, SpPr g (N + 2) w (.returned (.slice (some ⟨gA, 0, none⟩) n c1)) (w4.setCell ⟨gA, i * 3 + 1, none⟩ (.int .i64 y))) := Lib.hid (fun y => by
      have h := HSQ4.out.setB hgl hi y
      have h2 := h.fin hgl (fun k hk => by
        rw [List.length_set] at hk
        rw [mC_setG hi]
        split
        · exact (hin.out i hi).up h.only
        · exact (hin.out k hk).up h.only) (by rw [List.length_set]; exact HML.out)
      rw [List.length_set, ← hn.out] at h2
      exact h2)
    have hv4 : v = 0 ∨ v = 1 ∨ v = 2 ∨ v = 3 := by omega
    clear hc hfl cc2 hv
    rcases hv4 with rfl | rfl | rfl | rfl
    · have HF := Lib.hid (HFB.out (mA ms i))
      clear HC0 HC1 HC2 HFB
      go_wp2
      exact bodyPost_ret (v := .slice (some ⟨gA, 0, none⟩) n c1) (by simp [results, Try.results22, go_sem]) rfl HF.out
    · clear c0 c1' f1
      obtain ⟨B, m, cb, bs, e3, hrb, hmb, hml, hcb, hcm, hneb⟩ := HIn.out i hi
      rw [e3] at HC2
      have hbi := hB.out i hi
      have hm2 := hM.out i hi B m cb e3
      have hbk : ∃ cs, Blk w4 gA 58 cs := own_blk HSQ4.out.own rfl
      obtain ⟨cs, hbk⟩ := hbk
      have HBk := Lib.hid hbk
      have HRb := Lib.hid hrb
      clear e3 hrb hbk hneb
      go_upto_region 10 with (fail)
      refine spr10 (f := mA ms i) (t := mB ms i) (bs := bs) (cs := cs) 10 (by kernel_rfl) (by decide) rfl rfl rfl rfl rfl rfl rfl rfl rfl rfl rfl rfl rfl rfl rfl rfl rfl rfl rfl rfl rfl rfl rfl rfl (show 75 ≤ 75 from by decide) (fun _ _ _ _ _ h => h) rfl HBk.out HC0.out HC1.out HC2.out HRb.out hmb hm2 (by omega) ?_
      intro z0 z1 z2 z3 z4 z5 z6 z7 z8 z9 z10 z11 z12 z13 z14 z15 z16 z17 z18 z19 z20 z21 z22 A2 c2 w5 Ho5 Hb5
      simp only [Act.put, List.setIfInBounds_toArray, List.set_cons_zero, List.set_cons_succ]
      have HF : Hid (SpPr g (N + 2) w (.returned (.slice (some ⟨gA, 0, none⟩) n c1)) (w5.setCell ⟨gA, i * 3 + 2, none⟩ (.slice A2 (m + 1) c2))) := Lib.hid (by
        have h := HSQ4.out.setC hgl Hb5.out hi (.slice A2 (m + 1) c2)
        have hO : Only gA w5 (w5.setCell ⟨gA, i * 3 + 2, none⟩ (.slice A2 (m + 1) c2)) := (Only.refl gA w5).setCell (p := ⟨gA, i * 3 + 2, none⟩) (.inl rfl) _
        have hbk5 := HBk.out.below Hb5.out HBk.out.lt
        have hnew : InB (w5.setCell ⟨gA, i * 3 + 2, none⟩ (.slice A2 (m + 1) c2)) g (.slice A2 (m + 1) c2) := InB.of_own (World.ownsRow.kept Ho5.out hO (.inr (fun e => by
          obtain ⟨cs', hc'⟩ := own_blk Ho5.out e
          exact Blk.ne_ hc' hbk5 (by decide) rfl))) (by simp; omega) (by omega) h.deck
        have h2 := h.fin hgl (fun k hk => by
          rw [List.length_set] at hk
          rw [mC_setG hi]
          split
          · exact hnew
          · exact (hin.out k hk).up h.only) (by rw [List.length_set]; exact HML.out)
        rw [List.length_set, ← hn.out] at h2
        exact h2)
      clear HC0 HC1 HC2 HFB Ho5 Hb5 HBk HRb
      go_wp2
      exact bodyPost_ret (v := .slice (some ⟨gA, 0, none⟩) n c1) (by simp [results, Try.results22, go_sem]) rfl HF.out
    · have h00 : 0 < ms.length := by omega
      have hc := HSQ4.out.own.cells (g := gA) rfl
      have hfl := flatV_get ms 0 h00
      clear c0 c1' f1
      obtain ⟨B, m, cb, bs, e3, _⟩ := HIn.out 0 h00
      have z0 : w4.cell? ⟨gA, 0, none⟩ = some (.int .i64 (mA ms 0)) := by have := hc _ _ hfl.1; simpa [Go.WideShapes.add_plain] using this
      have z1 : w4.cell? ⟨gA, 1, none⟩ = some (.int .i64 (mB ms 0)) := by have := hc _ _ hfl.2.1; simpa [Go.WideShapes.add_plain] using this
      have z2 : w4.cell? ⟨gA, 2, none⟩ = some (.slice B m cb) := by have := hc _ _ hfl.2.2; rw [e3] at this; simpa [Go.WideShapes.add_plain] using this
      obtain ⟨fx, Hfx⟩ : ∃ x, Hid (x = mA ms 0) := ⟨_, Lib.hid rfl⟩
      obtain ⟨tx, Htx⟩ : ∃ x, Hid (x = mB ms 0) := ⟨_, Lib.hid rfl⟩
      rw [← Hfx.out] at z0
      rw [← Htx.out] at z1
      have HE3 : Hid (mC ms 0 = .slice B m cb) := Lib.hid e3
      have H3s : Hid (Src (w4.alloc (.cells #[.int .i64 fx, .int .i64 tx, .slice B m cb] 58)) 3 (some ⟨w4.heap.size, 0, none⟩) 1 [.int .i64 fx, .int .i64 tx, .slice B m cb]) := Lib.hid (three_src w4 _ _ _ _)
      have H3o : Hid (∀ u ∈ [Value.int .i64 fx, Value.int .i64 tx, .slice B m cb], u.oneCell' = true) := Lib.hid (three_one _ _ _ _ _)
      have HB4 : Hid (w.heap.size ≤ w4.heap.size) := Lib.hid HSQ4.out.only.size
      have HRow4 : Hid (w4.ownsRow w.heap.size 58 3 (.slice (some ⟨gA, 0, none⟩) n c1) n (flatV ms)) := Lib.hid (by have h := HSQ4.out.own; rw [← hn.out] at h; exact h)
      have hn0 : (0 : Int) < n := by omega
      clear hc hfl e3 HC0 HC1 HC2 HFB
      go_wp2_with (at_builtin; refine wpList_app rfl (.tmp 68) (.tmp 72) 45 rfl w.heap.size 58 ip _ 3 40 undPr HIP.out HIP0.out HIP1.out HIP2.out rfl (by decide) _ n _ rfl (HRow4.out.alloc _) _ 1 1 _ rfl H3s.out H3o.out ?_ ?_ ?_ ?_)
      · unfold maxLen; omega
      · omega
      · have := HB4.out; simp; omega
      intro A2 c2 w5 Ho5 Hg5 _
      have HF : Hid (SpPr g (N + 2) w (.returned (.slice A2 (n + 1) c2)) w5) := Lib.hid (by
        have h5 := Ho5.out
        have g5 := Hg5.out
        rw [hn.out] at h5 g5
        have h := HSQ4.out.app (x := (fx, tx, .slice B m cb)) hgl h5 g5
        have h2 := h.fin hgl (fun k hk => by
          rw [List.length_append] at hk
          simp only [List.length_cons, List.length_nil] at hk
          by_cases hlt : k < ms.length
          · rw [(mC_app hlt).2.2]
            exact (hin.out k hlt).up h.only
          · rw [(mC_end (show k = ms.length by omega)).2.2, ← HE3.out]
            exact (hin.out 0 (by omega)).up h.only) (by rw [List.length_append]; simp; rw [← hn.out]; omega)
        rw [List.length_append] at h2
        simp only [List.length_cons, List.length_nil, ← hn.out] at h2
        exact h2)
      clear H3s H3o Ho5 Hg5 z0 z1 z2
      go_wp2
      exact bodyPost_ret (v := .slice A2 (n + 1) c2) (by simp [results, Try.results22, go_sem]) rfl HF.out
    · have HF := Lib.hid (HFB.out 120968641)
      clear HC0 HC1 HC2 HFB
      go_wp2
      exact bodyPost_ret (v := .slice (some ⟨gA, 0, none⟩) n c1) (by simp [results, Try.results22, go_sem]) rfl HF.out
end Go.Proofs.Ytagkdkkpgcolkaa
namespace Go.Proofs.Ytagkdkkpgcolkaa
open Go.RowKit
set_option linter.unusedVariables false
set_option linter.unusedSimpArgs false
open Classical in
/-- the duties, none where there is an error -/
noncomputable def asD (o : Int) (zl : List (Int × Int)) (l : List T3) (P : List Pr) (early late : Int) : List Du := if asE o zl l P early late = 0 then asL o zl l P early late else []
theorem asD_len (o : Int) (zl : List (Int × Int)) (l : List T3) (P : List Pr) (early late : Int) : (asD o zl l P early late).length ≤ P.length := by
  unfold asD
  split
  · exact as_len _
  · simp
def AsE (ds : List Du) (dn : Nat) (ev : Int) (w : World) (e : Ending) (w' : World) : Prop := Below w.heap.size w w' ∧ ∃ A c, e = .returned (.tuple #[.slice A dn c, .int .i64 ev]) ∧ RdDu w' A ds
theorem asD_of {o : Int} {zl : List (Int × Int)} {l : List T3} {P : List Pr} {early late ev : Int} {dn : Nat} {w w' : World} {e : Ending} {ds : List Du} (hd : Hid (ds = asD o zl l P early late)) (he : Hid (ev = asE o zl l P early late)) (hn : Hid (dn = ds.length)) (h : AssignPost o zl l P early late w e w') : AsE ds dn ev w e w' := by
  rw [hn.out, hd.out, he.out]
  obtain ⟨hb, ⟨h0, h⟩ | ⟨h0, A, c, n, hn, h, hr, _⟩⟩ := h
  · unfold asD
    rw [if_neg h0]
    exact ⟨hb, none, 0, h, fun hp => by simp at hp⟩
  · unfold asD
    rw [if_pos h0]
    exact ⟨hb, A, c, by rw [h, hn, h0], hr⟩
theorem rdDu_below {w W : World} {A : Option Addr} {ds : List Du} (h : RdDu w A ds) (hb : Below w.heap.size w W) : RdDu W A ds := fun hp => by
  obtain ⟨g, e, hg, hc⟩ := h hp
  refine ⟨g, e, Nat.lt_of_lt_of_le hg hb.size, fun i hi => ?_⟩
  obtain ⟨k0, k1, B, cb, k2, hr, hl⟩ := hc i hi
  exact ⟨(hb.cell (p := ⟨g, i * 3, none⟩) hg).trans k0, (hb.cell (p := ⟨g, i * 3 + 1, none⟩) hg).trans k1, B, cb, (hb.cell (p := ⟨g, i * 3 + 2, none⟩) hg).trans k2, hr.below hb, hl⟩
/-- what SpoilPresences wants of presences that were made -/
theorem own_in {W : World} {g base N : Nat} {M : Int} {v : Value} {ps : List Pr} {ms : List M3} (h : OwnPs W base N v ps ms) (hp : prOk ps ps.length) (hD : Deck W g M) : ∀ k, k < ms.length → InB W g (mC ms k) := fun k hk => by
  rw [h.len] at hk
  obtain ⟨_, _, A, c, e3, hr⟩ := h.at_ k hk
  have h1 := hp k hk
  unfold prOk1 at h1
  rw [e3]
  exact InB.of_own hr rfl (by omega) hD
theorem own_len {W : World} {base N : Nat} {v : Value} {ps : List Pr} {ms : List M3} (h : OwnPs W base N v ps ms) (hp : prOk ps ps.length) : ∀ k, k < ms.length → ∀ B m cb, mC ms k = .slice B m cb → m ≤ 2000 := fun k hk B m cb e => by
  rw [h.len] at hk
  obtain ⟨_, _, A, c, e3, hr⟩ := h.at_ k hk
  have h1 := hp k hk
  unfold prOk1 at h1
  rw [e3] at e
  injection e with _ e _
  omega
theorem own_to {W : World} {base N : Nat} {v : Value} {ps : List Pr} {ms : List M3} (h : OwnPs W base N v ps ms) (hp : prOk ps ps.length) : ∀ k, k < ms.length → 0 ≤ mB ms k ∧ mB ms k ≤ 1000000000 := fun k hk => by
  rw [h.len] at hk
  obtain ⟨_, e2, _⟩ := h.at_ k hk
  have h1 := hp k hk
  have h2 := pF_bd (fun i hi => hp i (by omega) : prOk ps (k + 1)) hk
  unfold prOk1 at h1
  rw [e2]
  omega
set_option maxRecDepth 100000 in
set_option maxHeartbeats 12800000 in
theorem shiftAssigns_walk (A0 : Option Addr) (c0 : Nat) (l0 : List Int) (early0 late0 : Int) (w : World) (hr0 : RdI w w.heap.size A0 l0) (hl0 : l0.length ≤ 9223372036854775807) :
    Calls Try.prog 4 #[.slice A0 l0.length c0, .int .i64 early0, .int .i64 late0] w (RetB true w) := by
  have HNEW := Lib.hid (new_any A0 c0 l0 w hr0 hl0)
  clear hr0
  go_enter Try.func4, Try.ntmps4
  go_wp2_with fail
  refine HNEW.out.mono ?_
  rintro e w1 ⟨rfl, hb1, hd1, _⟩
  obtain ⟨g, Hg⟩ : ∃ g, Hid (g = w.heap.size) := ⟨_, Lib.hid rfl⟩
  rw [← Hg.out]
  have HL1 : Hid (LW w g 0 w1) := Lib.hid (by rw [Hg.out]; exact ⟨hb1, hd1, Nat.le_refl _⟩)
  clear hb1 hd1 HNEW Hg
  go_wp2
  go_loopw [8] (fun i wr => ∃ k : Nat, k ≤ 4 ∧ i = .int .i64 k ∧ LW w g (200 * (k : Int)) wr) (fun i _ => 4 - (intOf i).toNat)
  case atStart => exact ⟨0, by omega, rfl, by simpa using HL1.out⟩
  case round =>
    obtain ⟨k, hk, rfl, hlw⟩ := hrel
    have HLr := Lib.hid hlw
    clear hlw HL1
    by_cases hlt : k < 4
    · go_wp2_with fail
      refine (zone_any g (200 * (k : Int)) _ HLr.out.deck (by omega)).mono ?_
      rintro e w2 ⟨o, A, c, l, a, rfl, hgen, hr, hne, ho2, hD2⟩
      have HZL : Hid (l.length ≤ 9223372036854775807) := Lib.hid (by have := hgen.1; omega)
      have HL2 : Hid (LW w g (200 * (k : Int) + 20) w2) := Lib.hid (HLr.out.only ho2 hD2)
      have HR2 := Lib.hid hr
      have HNe : Hid (∀ b off, A = some ⟨b, off, none⟩ → b ≠ g) := Lib.hid (fun b off e => by have h1 := hne b off e; have h2 := HLr.out.deck.lt; omega)
      clear hgen hr hne ho2 hD2 HLr
      go_wp2_with fail
      refine (plan_any g (200 * (k : Int) + 20) 6 6 _ HL2.out.deck (by omega) rfl (by omega)).mono ?_
      rintro e w3 ⟨A1, c1, l1, rfl, hpk, hpr⟩
      have HP3 := Lib.hid hpr
      have hl12 := hpk.1
      clear hpr hpk
      go_wp2_with fail
      refine (spoil_any HL2.out.deck.lt HP3.out hl12 (by omega)).mono ?_
      rintro e w4 ⟨A2, c2, l2, rfl, hl2, hpr⟩
      have HP4 := Lib.hid hpr
      have HL4 : Hid (LW w g (200 * (k : Int) + 20 + 24 + 5) w4) := Lib.hid (HL2.out.pr hpr)
      have HR4 : Hid (RdP w4 w4.heap.size A l) := Lib.hid (Rd.more (Rd.only' HR2.out hpr.only (Nat.le_refl _) HNe.out) hpr.only.size)
      have HT4 : Hid (w4.ownsRow w2.heap.size 42 3 (.slice A2 l2.length c2) l2.length (flat3 l2)) := Lib.hid hpr.own
      clear hpr HP3 HP4 hl12 HR2 HL2
      go_wp2_with fail
      refine (presences_any g _ 6 6 _ HL4.out.deck (by omega) rfl (by omega)).mono ?_
      rintro e w5 ⟨A4, c4, ps, ms, a4, rfl, hp7, hpg, hps, ho, hD⟩
      have HL5 : Hid (LW w g (200 * (k : Int) + 20 + 24 + 5 + 80) w5) := Lib.hid (HL4.out.only ho hD)
      have HR5 : Hid (RdP w5 w5.heap.size A l) := Lib.hid (Rd.more (Rd.only' HR4.out ho (Nat.le_refl _) HNe.out) ho.size)
      have HT5 : Hid (w5.ownsRow w2.heap.size 42 3 (.slice A2 l2.length c2) l2.length (flat3 l2)) := Lib.hid (row_only HT4.out ho HL4.out.deck)
      have HS5 : Hid (OwnPs w5 w4.heap.size w5.heap.size (.slice A4 ps.length c4) ps ms) := Lib.hid hps
      have HPO : Hid (prOk ps ps.length) := Lib.hid hpg.1
      clear hpg hps ho hD HL4 HR4 HT4
      go_upto_region 6 with (fail)
      obtain ⟨w6, Hw6⟩ : ∃ W, Hid (W = w5.alloc (.cells #[.int .i64 o, .slice A l.length c] 25)) := ⟨_, Lib.hid rfl⟩
      obtain ⟨gx, Hgx⟩ : ∃ x, Hid (x = w5.heap.size) := ⟨_, Lib.hid rfl⟩
      rw [← Hw6.out, ← Hgx.out]
      have HA6 : Hid (Below w5.heap.size w5 w6) := Lib.hid (by rw [Hw6.out]; exact (Below.refl _ _).alloc (Nat.le_refl _) _)
      have HX6 : Hid (Blk w6 gx 25 #[.int .i64 o, .slice A l.length c]) := Lib.hid (by rw [Hw6.out, Hgx.out]; exact Blk.new _ _ _)
      have HL6 : Hid (LW w g (200 * (k : Int) + 20 + 24 + 5 + 80) w6) := Lib.hid (HL5.out.bel HA6.out)
      have HGX : Hid (g < gx) := Lib.hid (by rw [Hgx.out]; exact HL5.out.deck.lt)
      have HR6 : Hid (RdP w6 w6.heap.size A l) := Lib.hid (rdP_up HR5 HA6.out)
      have HT6 : Hid (w6.ownsRow w2.heap.size 42 3 (.slice A2 l2.length c2) l2.length (flat3 l2)) := Lib.hid (by rw [Hw6.out]; exact HT5.out.alloc _)
      have HS6 : Hid (OwnPs w6 w4.heap.size w5.heap.size (.slice A4 ps.length c4) ps ms) := Lib.hid (HS5.out.chg (S := fun _ => False) (Chg.of_below' HA6.out |>.mono (fun _ _ h => h)) (Nat.le_refl _) (fun _ _ h => h) (fun _ h => h.elim))
      clear Hw6 Hgx HA6 HL5 HR5 HT5 HS5
      go_wp2_with fail
      refine (next_any g _ 8 _ HL6.out.deck (by omega) (by omega) (by omega)).mono ?_
      rintro e w7 ⟨v, rfl, hv, ho, hD⟩
      have HX7 : Hid (Blk w7 gx 25 #[.int .i64 o, .slice A l.length c]) := Lib.hid (HX6.out.grown ho (by intro e; injection e with e; have := HGX.out; omega))
      have HL7 : Hid (LW w g (200 * (k : Int) + 20 + 24 + 5 + 80 + 1) w7) := Lib.hid (HL6.out.only ho hD)
      have HR7 : Hid (RdP w7 w7.heap.size A l) := Lib.hid (Rd.more (Rd.only' HR6.out ho (Nat.le_refl _) HNe.out) ho.size)
      have HT7 : Hid (w7.ownsRow w2.heap.size 42 3 (.slice A2 l2.length c2) l2.length (flat3 l2)) := Lib.hid (row_only HT6.out ho HL6.out.deck)
      have HS7 : Hid (OwnPs w7 w4.heap.size w5.heap.size (.slice A4 ps.length c4) ps ms) := Lib.hid (ownPs_only HS6.out ho HL6.out.deck)
      clear ho hD HX6 HL6 HR6 HT6 HS6
      by_cases hv7 : v = 7
      · have hvb : (v == 7) = true := by rw [beq_iff_eq]; exact hv7
        go_wp2_with fail
        refine (spoilPr_any g _ A4 c4 ps.length w4.heap.size ms _ (Lib.hid HS7.out.len.symm) hp7 HL7.out.deck (by omega) (Lib.hid HS7.out.row) (Lib.hid (own_in HS7.out HPO.out HL7.out.deck)) (Lib.hid (own_len HS7.out HPO.out)) (Lib.hid (own_to HS7.out HPO.out))).mono ?_
        rintro e wx ⟨A5, c5, n5, P5, rfl, hn5, hn8, hr5, ho, hD⟩
        subst hn5
        have HXx : Hid (Blk wx gx 25 #[.int .i64 o, .slice A l.length c]) := Lib.hid (HX7.out.grown ho (by intro e; injection e with e; have := HGX.out; omega))
        have HLx : Hid (LW w g (200 * (k : Int) + 132) wx) := Lib.hid ((HL7.out.only ho hD).more (by omega))
        have HRx : Hid (RdP wx wx.heap.size A l) := Lib.hid (Rd.more (Rd.only' HR7.out ho (Nat.le_refl _) HNe.out) ho.size)
        have HTx : Hid (wx.ownsRow w2.heap.size 42 3 (.slice A2 l2.length c2) l2.length (flat3 l2)) := Lib.hid (row_only HT7.out ho HL7.out.deck)
        have HRz : Hid (∀ W, Only g wx W → RdP W W.heap.size A l) := Lib.hid (fun W ho => Rd.more (Rd.only' HRx.out ho (Nat.le_refl _) HNe.out) ho.size)
        have HRt : Hid (∀ W, Only g wx W → RdT W W.heap.size A2 l2) := Lib.hid (fun W ho => own_rd3 (row_only HTx.out ho HLx.out.deck))
        have HRp : Hid (∀ W, Only g wx W → RdPr W A5 P5) := Lib.hid hr5
        have HP8 : Hid (P5.length ≤ 8) := Lib.hid hn8
        clear ho hD hr5 hn8 hvb HX7 HL7 HR7 HT7 HS7 HPO
        -- at wx: HXx, HLx, HRz, HRt, HRp, HP8
        go_wp2_with fail
        refine (pick_new g _ [60, 0, 180, 1440] _ 3 4 HLx.out.deck (by omega) (by decide) (by decide)).mono ?_
        rintro e wy ⟨ea, rfl, hu, ho, hD⟩
        have HOy := Lib.hid ho
        have HDy := Lib.hid hD
        clear hu ho hD
        go_wp2_with fail
        refine (pick_new g _ [120, 0, 1440] _ 3 3 HDy.out (by omega) (by decide) (by decide)).mono ?_
        rintro e wz ⟨eb, rfl, hu, ho, hD⟩
        have HOz : Hid (Only g wx wz) := Lib.hid (HOy.out.trans ho)
        have HXz : Hid (Blk wz gx 25 #[.int .i64 o, .slice A l.length c]) := Lib.hid (HXx.out.grown HOz.out (by intro e; injection e with e; have := HGX.out; omega))
        have HLz : Hid (LW w g (200 * (k : Int) + 140) wz) := Lib.hid ((HLx.out.only HOz.out hD).more (by omega))
        clear hu ho hD HOy HDy HXx HLx
        by_cases h3 : k = 3
        · have hb1 : decide ((k : Int) = 3) = true := by rw [decide_eq_true_iff]; omega
          have hbb : ((k : Int) == 3) = true := by rw [beq_iff_eq]; omega
          -- at wz: Hab (a, b), HOz (Only g wx wz), HXz, HLz
          have z0 : wz.cell? ⟨gx, 0, none⟩ = some (.int .i64 o) := by have := HXz.out.cell 0; simpa using this
          have z1 : wz.cell? ⟨gx, 1, none⟩ = some (.slice A l.length c) := by have := HXz.out.cell 1; simpa using this
          obtain ⟨ds, Hds⟩ : ∃ x, Hid (x = asD o l l2 P5 early0 late0) := ⟨_, Lib.hid rfl⟩
          obtain ⟨ev, Hev⟩ : ∃ x, Hid (x = asE o l l2 P5 early0 late0) := ⟨_, Lib.hid rfl⟩
          obtain ⟨dn, Hdn⟩ : ∃ x, Hid (x = ds.length) := ⟨_, Lib.hid rfl⟩
          have hdn : dn ≤ 8 := by rw [Hdn.out, Hds.out]; exact Nat.le_trans (asD_len o l l2 P5 early0 late0) HP8.out
          go_wp2_with fail
          refine ((assign_any o A c l.length l A2 c2 l2.length l2 A5 c5 P5.length P5 early0 late0 _ (Lib.hid rfl) (Lib.hid rfl) (Lib.hid rfl) (HRz.out _ HOz.out) HZL.out (HRt.out _ HOz.out) (by omega) (HRp.out _ HOz.out) (by have := HP8.out; omega)).mono (fun e w' h => asD_of Hds Hev Hdn h)).mono ?_
          rintro e wa ⟨hba, Aa, ca, rfl, hra⟩
          have HOa : Hid (Only g wx wa) := Lib.hid (HOz.out.trans (Only.of_below hba g))
          have HXa : Hid (Blk wa gx 25 #[.int .i64 o, .slice A l.length c]) := Lib.hid (HXz.out.below hba HXz.out.lt)
          have HLa : Hid (LW w g (200 * (k : Int) + 140) wa) := Lib.hid (HLz.out.bel hba)
          have HRa := Lib.hid hra
          clear z0 z1 hba hra HXz HLz HOz
          have z0 : wa.cell? ⟨gx, 0, none⟩ = some (.int .i64 o) := by have := HXa.out.cell 0; simpa using this
          have z1 : wa.cell? ⟨gx, 1, none⟩ = some (.slice A l.length c) := by have := HXa.out.cell 1; simpa using this
          go_wp2_with fail
          refine ((rassign_any o A c l.length l A2 c2 l2.length l2 A5 c5 P5.length P5 early0 late0 _ (Lib.hid rfl) (Lib.hid rfl) (Lib.hid rfl) (HRz.out _ HOa.out) HZL.out (HRt.out _ HOa.out) (by omega) (HRp.out _ HOa.out) (by have := HP8.out; omega)).mono (fun e w' h => asD_of Hds Hev Hdn h)).mono ?_
          rintro e wb ⟨hbb, Ab, cb, rfl, hrb⟩
          have HRa2 : Hid (RdDu wb Aa ds) := Lib.hid (rdDu_below HRa.out hbb)
          have HRb2 := Lib.hid hrb
          have HLb : Hid (LW w g (200 * (k : Int) + 140) wb) := Lib.hid (HLa.out.bel hbb)
          clear z0 z1 hbb hrb HOa HXa HLa HRa Hds Hev
          go_wp2_with fail
          refine (same_any Aa Ab ca cb dn ds _ Hdn HRa2 HRb2 (by omega)).mono ?_
          rintro e ws ⟨rfl, hbs⟩
          have HLs : Hid (LW w g (200 * ((k : Int) + 1)) ws) := Lib.hid ((HLb.out.bel hbs).more (by omega))
          have heb : (ev == ev) = true := by simp
          clear hbs HRa2 HRb2 HLb
          go_wp2
          go_roundw
          case rel => exact ⟨k + 1, by omega, by go_num, by have := HLs.out; simpa using this⟩
          case measure => simp [intOf]; omega
        · have hb1 : decide ((k : Int) = 3) = false := by rw [decide_eq_false_iff_not]; omega
          have hbb : ((k : Int) == 3) = false := by rw [beq_eq_false_iff_ne]; omega
          -- at wz: Hab (a, b), HOz (Only g wx wz), HXz, HLz
          have z0 : wz.cell? ⟨gx, 0, none⟩ = some (.int .i64 o) := by have := HXz.out.cell 0; simpa using this
          have z1 : wz.cell? ⟨gx, 1, none⟩ = some (.slice A l.length c) := by have := HXz.out.cell 1; simpa using this
          obtain ⟨ds, Hds⟩ : ∃ x, Hid (x = asD o l l2 P5 ea eb) := ⟨_, Lib.hid rfl⟩
          obtain ⟨ev, Hev⟩ : ∃ x, Hid (x = asE o l l2 P5 ea eb) := ⟨_, Lib.hid rfl⟩
          obtain ⟨dn, Hdn⟩ : ∃ x, Hid (x = ds.length) := ⟨_, Lib.hid rfl⟩
          have hdn : dn ≤ 8 := by rw [Hdn.out, Hds.out]; exact Nat.le_trans (asD_len o l l2 P5 ea eb) HP8.out
          go_wp2_with fail
          refine ((assign_any o A c l.length l A2 c2 l2.length l2 A5 c5 P5.length P5 ea eb _ (Lib.hid rfl) (Lib.hid rfl) (Lib.hid rfl) (HRz.out _ HOz.out) HZL.out (HRt.out _ HOz.out) (by omega) (HRp.out _ HOz.out) (by have := HP8.out; omega)).mono (fun e w' h => asD_of Hds Hev Hdn h)).mono ?_
          rintro e wa ⟨hba, Aa, ca, rfl, hra⟩
          have HOa : Hid (Only g wx wa) := Lib.hid (HOz.out.trans (Only.of_below hba g))
          have HXa : Hid (Blk wa gx 25 #[.int .i64 o, .slice A l.length c]) := Lib.hid (HXz.out.below hba HXz.out.lt)
          have HLa : Hid (LW w g (200 * (k : Int) + 140) wa) := Lib.hid (HLz.out.bel hba)
          have HRa := Lib.hid hra
          clear z0 z1 hba hra HXz HLz HOz
          have z0 : wa.cell? ⟨gx, 0, none⟩ = some (.int .i64 o) := by have := HXa.out.cell 0; simpa using this
          have z1 : wa.cell? ⟨gx, 1, none⟩ = some (.slice A l.length c) := by have := HXa.out.cell 1; simpa using this
          go_wp2_with fail
          refine ((rassign_any o A c l.length l A2 c2 l2.length l2 A5 c5 P5.length P5 ea eb _ (Lib.hid rfl) (Lib.hid rfl) (Lib.hid rfl) (HRz.out _ HOa.out) HZL.out (HRt.out _ HOa.out) (by omega) (HRp.out _ HOa.out) (by have := HP8.out; omega)).mono (fun e w' h => asD_of Hds Hev Hdn h)).mono ?_
          rintro e wb ⟨hbb, Ab, cb, rfl, hrb⟩
          have HRa2 : Hid (RdDu wb Aa ds) := Lib.hid (rdDu_below HRa.out hbb)
          have HRb2 := Lib.hid hrb
          have HLb : Hid (LW w g (200 * (k : Int) + 140) wb) := Lib.hid (HLa.out.bel hbb)
          clear z0 z1 hbb hrb HOa HXa HLa HRa Hds Hev
          go_wp2_with fail
          refine (same_any Aa Ab ca cb dn ds _ Hdn HRa2 HRb2 (by omega)).mono ?_
          rintro e ws ⟨rfl, hbs⟩
          have HLs : Hid (LW w g (200 * ((k : Int) + 1)) ws) := Lib.hid ((HLb.out.bel hbs).more (by omega))
          have heb : (ev == ev) = true := by simp
          clear hbs HRa2 HRb2 HLb
          go_wp2
          go_roundw
          case rel => exact ⟨k + 1, by omega, by go_num, by have := HLs.out; simpa using this⟩
          case measure => simp [intOf]; omega
      · have hvb : (v == 7) = false := by rw [beq_eq_false_iff_ne]; exact hv7
        obtain ⟨wx, Hwx⟩ : ∃ W, Hid (W = w7) := ⟨_, Lib.hid rfl⟩
        rw [← Hwx.out] at HX7 HL7 HR7 HT7 HS7 ⊢
        have HXx := HX7
        have HLx : Hid (LW w g (200 * (k : Int) + 132) wx) := Lib.hid (HL7.out.more (by omega))
        have HRz : Hid (∀ W, Only g wx W → RdP W W.heap.size A l) := Lib.hid (fun W ho => Rd.more (Rd.only' HR7.out ho (Nat.le_refl _) HNe.out) ho.size)
        have HRt : Hid (∀ W, Only g wx W → RdT W W.heap.size A2 l2) := Lib.hid (fun W ho => own_rd3 (row_only HT7.out ho HLx.out.deck))
        have HRp : Hid (∀ W, Only g wx W → RdPr W A4 ps) := Lib.hid (fun W ho => ownPs_rd (ownPs_only HS7.out ho HLx.out.deck))
        have HP8 : Hid (ps.length ≤ 8) := Lib.hid (by omega)
        clear Hwx HX7 HL7 HPO
        -- at wx: HXx, HLx, HRz, HRt, HRp, HP8
        go_wp2_with fail
        refine (pick_new g _ [60, 0, 180, 1440] _ 3 4 HLx.out.deck (by omega) (by decide) (by decide)).mono ?_
        rintro e wy ⟨ea, rfl, hu, ho, hD⟩
        have HOy := Lib.hid ho
        have HDy := Lib.hid hD
        clear hu ho hD
        go_wp2_with fail
        refine (pick_new g _ [120, 0, 1440] _ 3 3 HDy.out (by omega) (by decide) (by decide)).mono ?_
        rintro e wz ⟨eb, rfl, hu, ho, hD⟩
        have HOz : Hid (Only g wx wz) := Lib.hid (HOy.out.trans ho)
        have HXz : Hid (Blk wz gx 25 #[.int .i64 o, .slice A l.length c]) := Lib.hid (HXx.out.grown HOz.out (by intro e; injection e with e; have := HGX.out; omega))
        have HLz : Hid (LW w g (200 * (k : Int) + 140) wz) := Lib.hid ((HLx.out.only HOz.out hD).more (by omega))
        clear hu ho hD HOy HDy HXx HLx
        by_cases h3 : k = 3
        · have hb1 : decide ((k : Int) = 3) = true := by rw [decide_eq_true_iff]; omega
          have hbb : ((k : Int) == 3) = true := by rw [beq_iff_eq]; omega
          -- at wz: Hab (a, b), HOz (Only g wx wz), HXz, HLz
          have z0 : wz.cell? ⟨gx, 0, none⟩ = some (.int .i64 o) := by have := HXz.out.cell 0; simpa using this
          have z1 : wz.cell? ⟨gx, 1, none⟩ = some (.slice A l.length c) := by have := HXz.out.cell 1; simpa using this
          obtain ⟨ds, Hds⟩ : ∃ x, Hid (x = asD o l l2 ps early0 late0) := ⟨_, Lib.hid rfl⟩
          obtain ⟨ev, Hev⟩ : ∃ x, Hid (x = asE o l l2 ps early0 late0) := ⟨_, Lib.hid rfl⟩
          obtain ⟨dn, Hdn⟩ : ∃ x, Hid (x = ds.length) := ⟨_, Lib.hid rfl⟩
          have hdn : dn ≤ 8 := by rw [Hdn.out, Hds.out]; exact Nat.le_trans (asD_len o l l2 ps early0 late0) HP8.out
          go_wp2_with fail
          refine ((assign_any o A c l.length l A2 c2 l2.length l2 A4 c4 ps.length ps early0 late0 _ (Lib.hid rfl) (Lib.hid rfl) (Lib.hid rfl) (HRz.out _ HOz.out) HZL.out (HRt.out _ HOz.out) (by omega) (HRp.out _ HOz.out) (by have := HP8.out; omega)).mono (fun e w' h => asD_of Hds Hev Hdn h)).mono ?_
          rintro e wa ⟨hba, Aa, ca, rfl, hra⟩
          have HOa : Hid (Only g wx wa) := Lib.hid (HOz.out.trans (Only.of_below hba g))
          have HXa : Hid (Blk wa gx 25 #[.int .i64 o, .slice A l.length c]) := Lib.hid (HXz.out.below hba HXz.out.lt)
          have HLa : Hid (LW w g (200 * (k : Int) + 140) wa) := Lib.hid (HLz.out.bel hba)
          have HRa := Lib.hid hra
          clear z0 z1 hba hra HXz HLz HOz
          have z0 : wa.cell? ⟨gx, 0, none⟩ = some (.int .i64 o) := by have := HXa.out.cell 0; simpa using this
          have z1 : wa.cell? ⟨gx, 1, none⟩ = some (.slice A l.length c) := by have := HXa.out.cell 1; simpa using this
          go_wp2_with fail
          refine ((rassign_any o A c l.length l A2 c2 l2.length l2 A4 c4 ps.length ps early0 late0 _ (Lib.hid rfl) (Lib.hid rfl) (Lib.hid rfl) (HRz.out _ HOa.out) HZL.out (HRt.out _ HOa.out) (by omega) (HRp.out _ HOa.out) (by have := HP8.out; omega)).mono (fun e w' h => asD_of Hds Hev Hdn h)).mono ?_
          rintro e wb ⟨hbb, Ab, cb, rfl, hrb⟩
          have HRa2 : Hid (RdDu wb Aa ds) := Lib.hid (rdDu_below HRa.out hbb)
          have HRb2 := Lib.hid hrb
          have HLb : Hid (LW w g (200 * (k : Int) + 140) wb) := Lib.hid (HLa.out.bel hbb)
          clear z0 z1 hbb hrb HOa HXa HLa HRa Hds Hev
          go_wp2_with fail
          refine (same_any Aa Ab ca cb dn ds _ Hdn HRa2 HRb2 (by omega)).mono ?_
          rintro e ws ⟨rfl, hbs⟩
          have HLs : Hid (LW w g (200 * ((k : Int) + 1)) ws) := Lib.hid ((HLb.out.bel hbs).more (by omega))
          have heb : (ev == ev) = true := by simp
          clear hbs HRa2 HRb2 HLb
          go_wp2
          go_roundw
          case rel => exact ⟨k + 1, by omega, by go_num, by have := HLs.out; simpa using this⟩
          case measure => simp [intOf]; omega
        · have hb1 : decide ((k : Int) = 3) = false := by rw [decide_eq_false_iff_not]; omega
          have hbb : ((k : Int) == 3) = false := by rw [beq_eq_false_iff_ne]; omega
          -- at wz: Hab (a, b), HOz (Only g wx wz), HXz, HLz
          have z0 : wz.cell? ⟨gx, 0, none⟩ = some (.int .i64 o) := by have := HXz.out.cell 0; simpa using this
          have z1 : wz.cell? ⟨gx, 1, none⟩ = some (.slice A l.length c) := by have := HXz.out.cell 1; simpa using this
          obtain ⟨ds, Hds⟩ : ∃ x, Hid (x = asD o l l2 ps ea eb) := ⟨_, Lib.hid rfl⟩
          obtain ⟨ev, Hev⟩ : ∃ x, Hid (x = asE o l l2 ps ea eb) := ⟨_, Lib.hid rfl⟩
          obtain ⟨dn, Hdn⟩ : ∃ x, Hid (x = ds.length) := ⟨_, Lib.hid rfl⟩
          have hdn : dn ≤ 8 := by rw [Hdn.out, Hds.out]; exact Nat.le_trans (asD_len o l l2 ps ea eb) HP8.out
          go_wp2_with fail
          refine ((assign_any o A c l.length l A2 c2 l2.length l2 A4 c4 ps.length ps ea eb _ (Lib.hid rfl) (Lib.hid rfl) (Lib.hid rfl) (HRz.out _ HOz.out) HZL.out (HRt.out _ HOz.out) (by omega) (HRp.out _ HOz.out) (by have := HP8.out; omega)).mono (fun e w' h => asD_of Hds Hev Hdn h)).mono ?_
          rintro e wa ⟨hba, Aa, ca, rfl, hra⟩
          have HOa : Hid (Only g wx wa) := Lib.hid (HOz.out.trans (Only.of_below hba g))
          have HXa : Hid (Blk wa gx 25 #[.int .i64 o, .slice A l.length c]) := Lib.hid (HXz.out.below hba HXz.out.lt)
          have HLa : Hid (LW w g (200 * (k : Int) + 140) wa) := Lib.hid (HLz.out.bel hba)
          have HRa := Lib.hid hra
          clear z0 z1 hba hra HXz HLz HOz
          have z0 : wa.cell? ⟨gx, 0, none⟩ = some (.int .i64 o) := by have := HXa.out.cell 0; simpa using this
          have z1 : wa.cell? ⟨gx, 1, none⟩ = some (.slice A l.length c) := by have := HXa.out.cell 1; simpa using this
          go_wp2_with fail
          refine ((rassign_any o A c l.length l A2 c2 l2.length l2 A4 c4 ps.length ps ea eb _ (Lib.hid rfl) (Lib.hid rfl) (Lib.hid rfl) (HRz.out _ HOa.out) HZL.out (HRt.out _ HOa.out) (by omega) (HRp.out _ HOa.out) (by have := HP8.out; omega)).mono (fun e w' h => asD_of Hds Hev Hdn h)).mono ?_
          rintro e wb ⟨hbb, Ab, cb, rfl, hrb⟩
          have HRa2 : Hid (RdDu wb Aa ds) := Lib.hid (rdDu_below HRa.out hbb)
          have HRb2 := Lib.hid hrb
          have HLb : Hid (LW w g (200 * (k : Int) + 140) wb) := Lib.hid (HLa.out.bel hbb)
          clear z0 z1 hbb hrb HOa HXa HLa HRa Hds Hev
          go_wp2_with fail
          refine (same_any Aa Ab ca cb dn ds _ Hdn HRa2 HRb2 (by omega)).mono ?_
          rintro e ws ⟨rfl, hbs⟩
          have HLs : Hid (LW w g (200 * ((k : Int) + 1)) ws) := Lib.hid ((HLb.out.bel hbs).more (by omega))
          have heb : (ev == ev) = true := by simp
          clear hbs HRa2 HRb2 HLb
          go_wp2
          go_roundw
          case rel => exact ⟨k + 1, by omega, by go_num, by have := HLs.out; simpa using this⟩
          case measure => simp [intOf]; omega
    · have HW : Hid (Below w.heap.size w wr) := Lib.hid HLr.out.below
      go_wp2_with fail
      refine (sane_any _).mono ?_
      rintro e x2 ⟨rfl, hb⟩
      have HW := Lib.hid (HW.out.trans (hb.mono HW.out.size))
      clear hb
      go_wp2
      go_ret
      exact ⟨rfl, HW.out⟩
end Go.Proofs.Ytagkdkkpgcolkaa
