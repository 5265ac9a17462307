/-
  Chapter 41: Copy of the program. The memory is that of the given program; no conditions.
-/
import Derived.Test.YtabnlnhnefjebaaStQ
import Derived.Test.YtabnlnhnefjebaaSt2
namespace Go.Proofs.Ytabnlnhnefjebaa
open Go.RowKit
set_option linter.unusedVariables false
set_option linter.unusedSimpArgs false
theorem field59b (W : World) (p : Nat) : (Instr.fieldAt 59 (.pointer (some ⟨p, 0, none⟩)) 1).run Try.prog W = .ok (.pointer (some ⟨p, 1, none⟩)) W := by kernel_rfl
theorem cf47 (args : Array Value) (w : World) : (callFunc 47 args).run Try.prog w = .ok (.enter 47 args) w := by kernel_rfl
theorem run_build59 (w : World) (A : Option Addr) (n c : Nat) (v : Int) : (Instr.build 59 #[(0, .slice A n c), (1, .int .i64 v)]).run Try.prog w = .ok (.agg #[.slice A n c, .int .i64 v]) w := by kernel_rfl
theorem load3 {w : World} {g i : Nat} {v : Int} (h : w.cell? ⟨g, i, none⟩ = some (.int .i64 v)) : (loadVar 3 ⟨g, i, none⟩).run Try.prog w = .ok (.int .i64 v) w := by
  have hagg : (isAgg 3).run Try.prog w = .ok false w := by kernel_rfl
  unfold loadVar
  rw [Sem.run_bind, hagg, Result.andThen_ok]
  simp [h]
section
variable {P : Program} {o : Oper} {a : Act} {w : World}
theorem exec_build2 {t : TypeId} {x y : Operand} {u v r : Value} (ho : o.op = .build t #[(0, x), (1, y)]) (hx : a.eval x = u) (hy : a.eval y = v) (hr : (Instr.build t #[(0, u), (1, v)]).run P w = .ok r w) : (execOp a.eval o).run P w = .ok (.value r) w := by
  unfold execOp
  simp only [ho, List.map_toArray, List.map_cons, List.map_nil, hx, hy, Sem.run_bind, Sem.run_pure, Result.andThen_ok, hr]
theorem exec_box {t : TypeId} {x : Operand} {c : Array Value} (ho : o.op = .box t x) (hx : a.eval x = .agg c) : (execOp a.eval o).run P w = .ok (.value (.pointer (some ⟨w.heap.size, 0, none⟩))) (w.alloc (.cells c t)) := by
  unfold execOp
  simp [ho, hx, Instr.box, newVar, newRow, Value.cells, Result.andThen]
end
theorem cloneK_any {w : World} {p : Nat} {own : Option Nat} {B : List (List Int)} {sy : Nat} {A : Option Addr} {c : Nat} (h : StV w p own B sy A c) : Calls Try.prog 47 #[.slice A B.length c] w (NewRow 61 32 B.length (u8s B.flatten) w) := by
  have hl := h.len
  rcases h.row.2 with ⟨h1, h2⟩ | ⟨g, cap, cur, h1, h2, h3, h4, h5, h6, h7⟩
  · injection h1 with a1 a2 a3
    have hB : B = [] := List.eq_nil_of_length_eq_zero h2
    subst hB a1 a3
    exact cloneK_none w
  · injection h1 with a1 a2 a3
    subst a1 a3
    refine cloneK_some _ c B.length (u8s B.flatten) w ⟨h.row.1, fun _ => ⟨_, rfl, fun j u hu => h.row.cells (g := g) rfl j u hu⟩⟩ (u8s_one _) (by omega)
def copyOk (ops : Array Oper) : Bool :=
  let L := Array.replicate 12 false
  Region.noSelect ops && ((ops.size == 12) && (Region.free .any ops L 0 && ((Region.ready .any ops L).contains 0 && (Region.free .any ops (L.setIfInBounds 0 true) 1 && ((Region.ready .any ops (L.setIfInBounds 0 true)).contains 1 && (Region.free .any ops ((L.setIfInBounds 0 true).setIfInBounds 1 true) 2 && ((Region.ready .any ops ((L.setIfInBounds 0 true).setIfInBounds 1 true)).contains 2 && (Region.free .any ops (((L.setIfInBounds 0 true).setIfInBounds 1 true).setIfInBounds 2 true) 3 && ((Region.ready .any ops (((L.setIfInBounds 0 true).setIfInBounds 1 true).setIfInBounds 2 true)).contains 3 && (Region.free .any ops ((((L.setIfInBounds 0 true).setIfInBounds 1 true).setIfInBounds 2 true).setIfInBounds 3 true) 5 && ((Region.ready .any ops ((((L.setIfInBounds 0 true).setIfInBounds 1 true).setIfInBounds 2 true).setIfInBounds 3 true)).contains 5 && (Region.free .any ops (((((L.setIfInBounds 0 true).setIfInBounds 1 true).setIfInBounds 2 true).setIfInBounds 3 true).setIfInBounds 5 true) 6 && ((Region.ready .any ops (((((L.setIfInBounds 0 true).setIfInBounds 1 true).setIfInBounds 2 true).setIfInBounds 3 true).setIfInBounds 5 true)).contains 6 && (Region.free .any ops ((((((L.setIfInBounds 0 true).setIfInBounds 1 true).setIfInBounds 2 true).setIfInBounds 3 true).setIfInBounds 5 true).setIfInBounds 6 true) 7 && ((Region.ready .any ops ((((((L.setIfInBounds 0 true).setIfInBounds 1 true).setIfInBounds 2 true).setIfInBounds 3 true).setIfInBounds 5 true).setIfInBounds 6 true)).contains 7 && (Region.free .any ops (((((((L.setIfInBounds 0 true).setIfInBounds 1 true).setIfInBounds 2 true).setIfInBounds 3 true).setIfInBounds 5 true).setIfInBounds 6 true).setIfInBounds 7 true) 8 && ((Region.ready .any ops (((((((L.setIfInBounds 0 true).setIfInBounds 1 true).setIfInBounds 2 true).setIfInBounds 3 true).setIfInBounds 5 true).setIfInBounds 6 true).setIfInBounds 7 true)).contains 8 && ((Region.ready .any ops ((((((((L.setIfInBounds 0 true).setIfInBounds 1 true).setIfInBounds 2 true).setIfInBounds 3 true).setIfInBounds 5 true).setIfInBounds 6 true).setIfInBounds 7 true).setIfInBounds 8 true) == [4]) && ((Region.ready .any ops (((((((((L.setIfInBounds 0 true).setIfInBounds 1 true).setIfInBounds 2 true).setIfInBounds 3 true).setIfInBounds 5 true).setIfInBounds 6 true).setIfInBounds 7 true).setIfInBounds 8 true).setIfInBounds 4 true) == [9]) && ((Region.ready .any ops ((((((((((L.setIfInBounds 0 true).setIfInBounds 1 true).setIfInBounds 2 true).setIfInBounds 3 true).setIfInBounds 5 true).setIfInBounds 6 true).setIfInBounds 7 true).setIfInBounds 8 true).setIfInBounds 4 true).setIfInBounds 9 true) == [10]) && ((Region.ready .any ops (((((((((((L.setIfInBounds 0 true).setIfInBounds 1 true).setIfInBounds 2 true).setIfInBounds 3 true).setIfInBounds 5 true).setIfInBounds 6 true).setIfInBounds 7 true).setIfInBounds 8 true).setIfInBounds 4 true).setIfInBounds 9 true).setIfInBounds 10 true) == [11]) && ((Region.ready .any ops ((((((((((((L.setIfInBounds 0 true).setIfInBounds 1 true).setIfInBounds 2 true).setIfInBounds 3 true).setIfInBounds 5 true).setIfInBounds 6 true).setIfInBounds 7 true).setIfInBounds 8 true).setIfInBounds 4 true).setIfInBounds 9 true).setIfInBounds 10 true).setIfInBounds 11 true) == [])))))))))))))))))))))))

set_option maxHeartbeats 1600000 in
theorem copy_region {ops : Array Oper} {Q : Exit → Act → World → Prop} {a : Act} {w : World} (id b s0 sd : Nat) {y0 y1 y2 y3 y4 y5 y6 y7 y8 y9 y10 y11 : TypeId} {q0 q1 q2 q3 q4 q5 q6 q7 q8 q9 q10 q11 : String} {f0 f1 f2 f3 f4 f5 f6 f7 f8 f9 f10 f11 : Array Edge}
    (hok : copyOk ops = true) (h0 : ops[0]? = some ⟨(some b), .move (.tmp s0), y0, q0, f0, none⟩) (h1 : ops[1]? = some ⟨(some (b + 1)), .nilCheck (.tmp b), y1, q1, f1, none⟩) (h2 : ops[2]? = some ⟨(some (b + 2)), .fieldAddr 59 (.tmp (b + 1)) 0, y2, q2, f2, none⟩) (h3 : ops[3]? = some ⟨(some (b + 3)), .load 57 (.tmp (b + 2)), y3, q3, f3, none⟩) (h4 : ops[4]? = some ⟨(some (b + 4)), .call { callee := .value (.func 47), args := #[(.tmp (b + 3))], argTypes := #[57] }, y4, q4, f4, none⟩) (h5 : ops[5]? = some ⟨(some (b + 5)), .move (.tmp s0), y5, q5, f5, none⟩) (h6 : ops[6]? = some ⟨(some (b + 6)), .nilCheck (.tmp (b + 5)), y6, q6, f6, none⟩) (h7 : ops[7]? = some ⟨(some (b + 7)), .fieldAddr 59 (.tmp (b + 6)) 1, y7, q7, f7, none⟩) (h8 : ops[8]? = some ⟨(some (b + 8)), .load 3 (.tmp (b + 7)), y8, q8, f8, none⟩) (h9 : ops[9]? = some ⟨(some (b + 9)), .build 59 #[(0, (.tmp (b + 4))), (1, (.tmp (b + 8)))], y9, q9, f9, none⟩) (h10 : ops[10]? = some ⟨(some (b + 10)), .box 59 (.tmp (b + 9)), y10, q10, f10, none⟩) (h11 : ops[11]? = some ⟨(some sd), .assign (.tmp (b + 10)), y11, q11, f11, none⟩)
    (hs0 : s0 < b) (hsd : sd < b) (hsz : b + 10 < a.tmps.size) (hQ : ∀ c a (d : Nat) v w, Q (.panic c) (a.put (some d) v) w → Q (.panic c) a w)
    (p : Nat) (e0 : a.eval (.tmp s0) = .pointer (some ⟨p, 0, none⟩)) {own : Option Nat} {B : List (List Int)} {sy : Nat} {A : Option Addr} {c : Nat} (h : StV w p own B sy A c)
    (K : ∀ z0 z1 z2 z3 z5 z6 z7 z8 z4 z9 z10 w1 A' c', Hid (w1.ownsRow w.heap.size 61 32 (.slice A' B.length c') B.length (u8s B.flatten)) → Hid (Below w.heap.size w w1) → Q .normal ((((((((((((a.put (some b) z0).put (some (b + 1)) z1).put (some (b + 2)) z2).put (some (b + 3)) z3).put (some (b + 5)) z5).put (some (b + 6)) z6).put (some (b + 7)) z7).put (some (b + 8)) z8).put (some (b + 4)) z4).put (some (b + 9)) z9).put (some (b + 10)) z10).put (some sd) (.pointer (some ⟨w1.heap.size, 0, none⟩))) (w1.alloc (.cells #[.slice A' B.length c', .int .i64 sy] 59))) :
    (Code.region id ops true).wp Try.prog Q a w := by
  unfold copyOk at hok
  simp only [Bool.and_eq_true, beq_iff_eq] at hok
  obtain ⟨k0, k1, k2, k3, k4, k5, k6, k7, k8, k9, k10, k11, k12, k13, k14, k15, k16, k17, k18, k19, k20, k21, k22⟩ := hok
  have hSW : Below w.heap.size w w.drew := below_drewN (Below.refl _ _) 1
  have c0 : ∀ W, Below w.heap.size w W → W.cell? ⟨p, 0, none⟩ = some (.slice A B.length c) := fun W hW => by
    have := (h.box.below hW h.box.lt).cell 0
    simpa using this
  have c1 : ∀ W, Below w.heap.size w W → W.cell? ⟨p, 1, none⟩ = some (.int .i64 sy) := fun W hW => by
    have := (h.box.below hW h.box.lt).cell 1
    simpa using this
  refine wp_region_WH (S := fun W => Below w.heap.size w W) (by kernel_rfl) ?_
  rw [k1]
  refine h_take (i := 0) (fuel := 11) (d := some b) (v := (.pointer (some ⟨p, 0, none⟩))) h0 k0 k2 k3 (fun c a w => hQ c a _ _ w) (wanted_none rfl) rfl (fun W hW => x_move rfl (by exact e0)) hSW ?_
  refine h_take (i := 1) (fuel := 10) (d := some (b + 1)) (v := (.pointer (some ⟨p, 0, none⟩))) h1 k0 k4 k5 (fun c a w => hQ c a _ _ w) (wanted_none rfl) rfl (fun W hW => x_nil rfl (by rw [put_same _ _ _ (by first | omega | (simp only [put_size]; omega))])) hSW ?_
  refine h_take (i := 2) (fuel := 9) (d := some (b + 2)) (v := (.pointer (some ⟨p, 0, none⟩))) h2 k0 k6 k7 (fun c a w => hQ c a _ _ w) (wanted_none rfl) rfl (fun W hW => x_field rfl (by rw [put_same _ _ _ (by first | omega | (simp only [put_size]; omega))]) (field59 W p)) hSW ?_
  refine h_take (i := 3) (fuel := 8) (d := some (b + 3)) (v := (.slice A B.length c)) h3 k0 k8 k9 (fun c a w => hQ c a _ _ w) (wanted_none rfl) rfl (fun W hW => exec_load rfl (by rw [put_same _ _ _ (by first | omega | (simp only [put_size]; omega))]) (load57 (c0 W hW))) hSW ?_
  refine h_take (i := 5) (fuel := 7) (d := some (b + 5)) (v := (.pointer (some ⟨p, 0, none⟩))) h5 k0 k10 k11 (fun c a w => hQ c a _ _ w) (wanted_none rfl) rfl (fun W hW => x_move rfl (by rw [put_other _ _ _ _ (by omega)]; rw [put_other _ _ _ _ (by omega)]; rw [put_other _ _ _ _ (by omega)]; rw [put_other _ _ _ _ (by omega)]; exact e0)) hSW ?_
  refine h_take (i := 6) (fuel := 6) (d := some (b + 6)) (v := (.pointer (some ⟨p, 0, none⟩))) h6 k0 k12 k13 (fun c a w => hQ c a _ _ w) (wanted_none rfl) rfl (fun W hW => x_nil rfl (by rw [put_same _ _ _ (by first | omega | (simp only [put_size]; omega))])) hSW ?_
  refine h_take (i := 7) (fuel := 5) (d := some (b + 7)) (v := (.pointer (some ⟨p, 1, none⟩))) h7 k0 k14 k15 (fun c a w => hQ c a _ _ w) (wanted_none rfl) rfl (fun W hW => x_field rfl (by rw [put_same _ _ _ (by first | omega | (simp only [put_size]; omega))]) (field59b W p)) hSW ?_
  refine h_take (i := 8) (fuel := 4) (d := some (b + 8)) (v := (.int .i64 sy)) h8 k0 k16 k17 (fun c a w => hQ c a _ _ w) (wanted_none rfl) rfl (fun W hW => exec_load rfl (by rw [put_same _ _ _ (by first | omega | (simp only [put_size]; omega))]) (load3 (c1 W hW))) hSW ?_
  refine h_call (i := 4) (fuel := 3) (d := some (b + 4)) (f := 47) (args := #[.slice A B.length c]) k18 h4 (wanted_none rfl) rfl (x_call1 rfl (by rw [put_other _ _ _ _ (by omega)]; rw [put_other _ _ _ _ (by omega)]; rw [put_other _ _ _ _ (by omega)]; rw [put_other _ _ _ _ (by omega)]; rw [put_same _ _ _ (by first | omega | (simp only [put_size]; omega))]) (cf47 _ _)) ?_
  refine (cloneK_any h.drew).mono ?_
  rintro e w1 ⟨A', c', rfl, ho, hb⟩
  have hb1 : Below w.heap.size w w1 := (below_drewN (Below.refl w.heap.size w) 1).trans hb
  refine ⟨_, rfl, hb1, ?_⟩
  refine h_val (i := 9) (fuel := 2) (d := some (b + 9)) (v := .agg #[.slice A' B.length c', .int .i64 sy]) k19 h9 (wanted_none rfl) rfl (exec_build2 rfl (by rw [put_same _ _ _ (by first | omega | (simp only [put_size]; omega))]) (by rw [put_other _ _ _ _ (by omega)]; rw [put_same _ _ _ (by first | omega | (simp only [put_size]; omega))]) (run_build59 w1 _ _ _ _)) hb1 ?_
  refine h_val (i := 10) (fuel := 1) (d := some (b + 10)) (v := .pointer (some ⟨w1.heap.size, 0, none⟩)) (w' := w1.alloc (.cells #[.slice A' B.length c', .int .i64 sy] 59)) k20 h10 (wanted_none rfl) rfl (exec_box rfl (by rw [put_same _ _ _ (by first | omega | (simp only [put_size]; omega))])) (hb1.alloc hb1.size _) ?_
  refine h_val (i := 11) (fuel := 0) (d := some sd) (v := .pointer (some ⟨w1.heap.size, 0, none⟩)) k21 h11 (wanted_none rfl) rfl (x_assign rfl (by rw [put_same _ _ _ (by first | omega | (simp only [put_size]; omega))])) (hb1.alloc hb1.size _) ?_
  refine h_done k22 ?_
  exact K _ _ _ _ _ _ _ _ _ _ _ w1 A' c' (Lib.hid ho) (Lib.hid hb1)
def CopyPost (B : List (List Int)) (sy : Nat) (w : World) (e : Ending) (w' : World) : Prop := ∃ g own', e = .returned (.pointer (some ⟨g, 0, none⟩)) ∧ St w' g own' B sy ∧ Below w.heap.size w w' ∧ w.heap.size ≤ g ∧ ∀ k, own' = some k → w.heap.size ≤ k
theorem copyPost_of {w w1 : World} {p : Nat} {own : Option Nat} {B : List (List Int)} {sy : Nat} {A A' : Option Addr} {c c' : Nat} (h : StV w p own B sy A c) (ho : Hid (w1.ownsRow w.heap.size 61 32 (.slice A' B.length c') B.length (u8s B.flatten))) (hb : Hid (Below w.heap.size w w1)) :
    CopyPost B sy w (.returned (.pointer (some ⟨w1.heap.size, 0, none⟩))) (w1.alloc (.cells #[.slice A' B.length c', .int .i64 sy] 59)) := by
  refine ⟨w1.heap.size, (Value.slice A' B.length c').ownBlock, rfl, ⟨A', c', rfl, Blk.new _ _ _, own_base ((ho.out).alloc _) (fun _ _ => Nat.zero_le _), h.ok, h.len, h.syn⟩, (hb.out).alloc (hb.out).size _, (hb.out).size, fun k e => ((ho.out).lt k e).1⟩
theorem copy_any (p : Nat) (own : Option Nat) (B : List (List Int)) (sy : Nat) (w : World) (h : St w p own B sy) : Calls Try.prog 35 #[.pointer (some ⟨p, 0, none⟩)] w (CopyPost B sy w) := by
  obtain ⟨A, c, h⟩ := h
  have HS := Lib.hid h
  clear h
  go_enter Try.func35, Try.ntmps35
  go_upto_region 3 with (fail)
  refine copy_region 3 5 0 2 (by kernel_rfl) rfl rfl rfl rfl rfl rfl rfl rfl rfl rfl rfl rfl (by decide) (by decide) (show 15 < 16 from by decide) (fun _ _ _ _ _ h => h) p rfl HS.out ?_
  intro z0 z1 z2 z3 z5 z6 z7 z8 z4 z9 z10 w1 A' c' Ho Hb
  simp only [Nat.reduceAdd, Act.put, List.setIfInBounds_toArray, List.set_cons_zero, List.set_cons_succ]
  have HP := Lib.hid (copyPost_of HS.out Ho Hb)
  go_wp2
  go_ret
  exact HP.out
end Go.Proofs.Ytabnlnhnefjebaa
