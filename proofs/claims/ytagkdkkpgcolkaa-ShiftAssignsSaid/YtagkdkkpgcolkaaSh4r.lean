/-
  Chapter 10: the test of spans' loop, a region that draws its order. The memory is that of the given program; no conditions.
-/
import Derived.Test.YtagkdkkpgcolkaaReg
namespace Go.Proofs.Ytagkdkkpgcolkaa
open Go.RowKit
set_option linter.unusedVariables false
set_option linter.unusedSimpArgs false
theorem field38 (W : World) (p i : Nat) : (Instr.fieldAt 38 (.pointer (some ⟨p, i, none⟩)) 0).run Try.prog W = .ok (.pointer (some ⟨p, i, none⟩)) W := by kernel_rfl
theorem field38b (W : World) (p i : Nat) : (Instr.fieldAt 38 (.pointer (some ⟨p, i, none⟩)) 1).run Try.prog W = .ok (.pointer (some ⟨p, i + 1, none⟩)) W := by kernel_rfl
theorem load3 {w : World} {g i : Nat} {v : Int} (h : w.cell? ⟨g, i, none⟩ = some (.int .i64 v)) : (loadVar 3 ⟨g, i, none⟩).run Try.prog w = .ok (.int .i64 v) w := by
  have hagg : (isAgg 3).run Try.prog w = .ok false w := by kernel_rfl
  unfold loadVar
  rw [Sem.run_bind, hagg, Result.andThen_ok]
  simp [h]
theorem lss_int (w : World) (m n : Int) : (binOp .lss 3 (.int .i64 m) (.int .i64 n)).run Try.prog w = .ok (.bool (decide (m < n))) w := by
  simp [binOp, go_sem, und3]
theorem gtr_intT (w : World) (m n : Int) (h : n < m) : (binOp .gtr 3 (.int .i64 m) (.int .i64 n)).run Try.prog w = .ok (.bool true) w := by
  rw [gtr_int]; simp [h]
theorem sub_int (w : World) (m n : Int) (h : -9223372036854775808 ≤ m - n ∧ m - n ≤ 9223372036854775807) : (binOp .sub 3 (.int .i64 m) (.int .i64 n)).run Try.prog w = .ok (.int .i64 (m - n)) w := by
  have hw : IntKind.i64.wrap (m - n) = m - n := IntWalk.i64_in _ (by omega)
  simp [binOp, go_sem, und3, hw]
section
variable {o : Oper} {a : Act} {w : World}
theorem x_index {P : Program} {x y : Operand} {t : TypeId} {u v r : Value} (ho : o.op = .indexAddr t x y) (hx : a.eval x = u) (hy : a.eval y = v) (hr : (Instr.indexAt t u v).run P w = .ok r w) : (execOp a.eval o).run P w = .ok (.value r) w := by
  unfold execOp; simp only [ho, hx, hy, Sem.run_bind, hr, Sem.run_pure, Result.andThen_ok]
end
theorem run_idx56 (w : World) (g n c i : Nat) (hi : i < n) : (Instr.indexAt 56 (.slice (some ⟨g, 0, none⟩) n c) (.int .i64 i)).run Try.prog w = .ok (.pointer (some ⟨g, i * 2, none⟩)) w := by
  have hu : Try.prog.underlying 56 = some (.slice 38) := by kernel_rfl
  have hsz : (sizeOf 38).run Try.prog w = .ok 2 w := by kernel_rfl
  have h1 : (i : Int) < (n : Int) := by omega
  simp [Instr.indexAt, go_sem, hu, hsz, h1, Go.WideShapes.add_plain]
  intro h; omega
set_option maxHeartbeats 1600000 in
theorem span_test0 {ops : Array Oper} {Q : Exit → Act → World → Prop} {a : Act} {w : World} (id : Nat) {y0 y1 y2 y3 y4 y5 y6 y7 y8 y9 y10 y11 y12 : TypeId} {q0 q1 q2 q3 q4 q5 q6 q7 q8 q9 q10 q11 q12 : String} {f0 f1 f2 f3 f4 f5 f6 f7 f8 f9 f10 f11 f12 : Array Edge} (hok : regOk ops [(0, true), (1, true), (2, true), (3, true), (4, true), (5, true), (6, true), (7, true), (8, true), (9, true), (10, true), (11, true), (12, true)] = true)
    (h0 : ops[0]? = some ⟨(some 36), .move (.tmp 8), y0, q0, f0, none⟩) (h1 : ops[1]? = some ⟨(some 37), .binOp .gtr 3 (.tmp 36) (.const (.int .i64 0)) 3, y1, q1, f1, none⟩) (h2 : ops[2]? = some ⟨(some 38), .move (.tmp 37), y2, q2, f2, none⟩) (h3 : ops[3]? = some ⟨(some 39), .fieldAddr 38 (.tmp 10) 0, y3, q3, f3, (some (2, true))⟩) (h4 : ops[4]? = some ⟨(some 40), .load 3 (.tmp 39), y4, q4, f4, (some (2, true))⟩) (h5 : ops[5]? = some ⟨(some 41), .move (.tmp 7), y5, q5, f5, (some (2, true))⟩) (h6 : ops[6]? = some ⟨(some 42), .move (.tmp 8), y6, q6, f6, (some (2, true))⟩) (h7 : ops[7]? = some ⟨(some 43), .binOp .sub 3 (.tmp 42) (.const (.int .i64 1)) 3, y7, q7, f7, (some (2, true))⟩) (h8 : ops[8]? = some ⟨(some 44), .indexAddr 56 (.tmp 41) (.tmp 43), y8, q8, f8, (some (2, true))⟩) (h9 : ops[9]? = some ⟨(some 45), .fieldAddr 38 (.tmp 44) 1, y9, q9, f9, (some (2, true))⟩) (h10 : ops[10]? = some ⟨(some 46), .load 3 (.tmp 45), y10, q10, f10, (some (2, true))⟩) (h11 : ops[11]? = some ⟨(some 47), .binOp .lss 3 (.tmp 40) (.tmp 46) 3, y11, q11, f11, (some (2, true))⟩) (h12 : ops[12]? = some ⟨(some 48), .pick (.tmp 38) (.tmp 47) (.const (.bool false)), y12, q12, f12, none⟩)
    (hsz : 55 ≤ a.tmps.size) (hQ : ∀ c a (d : Nat) v w, Q (.panic c) (a.put (some d) v) w → Q (.panic c) a w) (e8 : a.eval (.tmp 8) = .int .i64 0)
    (K : ∀ z0 z1 z2 z3 z4 z5 z6 z7 z8 z9 z10 z11 w', Bel w w' → Q .normal (((((((((((((a.put (some 36) z0).put (some 37) z1).put (some 38) z2).put (some 39) z3).put (some 40) z4).put (some 41) z5).put (some 42) z6).put (some 43) z7).put (some 44) z8).put (some 45) z9).put (some 46) z10).put (some 47) z11).put (some 48) (.bool false)) w') : (Code.region id ops true).wp Try.prog Q a w := by
  have hB0 := Bel.drew w
  refine wp_region_WB (by kernel_rfl) hok hQ ?_
  refine b_take (i := 0) (d := some 36) (v := (.int .i64 0)) h0 (wanted_none rfl) rfl (fun W hW => x_move rfl e8) ?_
  refine b_take (i := 1) (d := some 37) (v := (.bool false)) h1 (wanted_none rfl) rfl (fun W hW => x_bin rfl (pS hsz (by decide)) rfl ((gtr_int W 0 0))) ?_
  refine b_take (i := 2) (d := some 38) (v := (.bool false)) h2 (wanted_none rfl) rfl (fun W hW => x_move rfl (pS (pZ hsz) (by decide))) ?_
  refine b_skip (i := 3) (d := some 39) h3 (wanted_no rfl h2 rfl (pS (pZ (pZ hsz)) (by decide))) rfl ?_
  refine b_skip (i := 4) (d := some 40) h4 (wanted_no rfl h2 rfl (pO (by decide) (pS (pZ (pZ hsz)) (by decide)))) rfl ?_
  refine b_skip (i := 5) (d := some 41) h5 (wanted_no rfl h2 rfl (pO (by decide) (pO (by decide) (pS (pZ (pZ hsz)) (by decide))))) rfl ?_
  refine b_skip (i := 6) (d := some 42) h6 (wanted_no rfl h2 rfl (pO (by decide) (pO (by decide) (pO (by decide) (pS (pZ (pZ hsz)) (by decide)))))) rfl ?_
  refine b_skip (i := 7) (d := some 43) h7 (wanted_no rfl h2 rfl (pO (by decide) (pO (by decide) (pO (by decide) (pO (by decide) (pS (pZ (pZ hsz)) (by decide))))))) rfl ?_
  refine b_skip (i := 8) (d := some 44) h8 (wanted_no rfl h2 rfl (pO (by decide) (pO (by decide) (pO (by decide) (pO (by decide) (pO (by decide) (pS (pZ (pZ hsz)) (by decide)))))))) rfl ?_
  refine b_skip (i := 9) (d := some 45) h9 (wanted_no rfl h2 rfl (pO (by decide) (pO (by decide) (pO (by decide) (pO (by decide) (pO (by decide) (pO (by decide) (pS (pZ (pZ hsz)) (by decide))))))))) rfl ?_
  refine b_skip (i := 10) (d := some 46) h10 (wanted_no rfl h2 rfl (pO (by decide) (pO (by decide) (pO (by decide) (pO (by decide) (pO (by decide) (pO (by decide) (pO (by decide) (pS (pZ (pZ hsz)) (by decide)))))))))) rfl ?_
  refine b_skip (i := 11) (d := some 47) h11 (wanted_no rfl h2 rfl (pO (by decide) (pO (by decide) (pO (by decide) (pO (by decide) (pO (by decide) (pO (by decide) (pO (by decide) (pO (by decide) (pS (pZ (pZ hsz)) (by decide))))))))))) rfl ?_
  refine b_take (i := 12) (d := some 48) (v := (.bool false)) h12 (wanted_none rfl) rfl (fun W hW => x_pickF rfl (pO (by decide) (pO (by decide) (pO (by decide) (pO (by decide) (pO (by decide) (pO (by decide) (pO (by decide) (pO (by decide) (pO (by decide) (pS (pZ (pZ hsz)) (by decide))))))))))) rfl) ?_
  refine b_done ?_
  exact K _ _ _ _ _ _ _ _ _ _ _ _ _ hB0
set_option maxHeartbeats 1600000 in
theorem span_test1 {ops : Array Oper} {Q : Exit → Act → World → Prop} {a : Act} {w : World} (id : Nat) {y0 y1 y2 y3 y4 y5 y6 y7 y8 y9 y10 y11 y12 : TypeId} {q0 q1 q2 q3 q4 q5 q6 q7 q8 q9 q10 q11 q12 : String} {f0 f1 f2 f3 f4 f5 f6 f7 f8 f9 f10 f11 f12 : Array Edge} (hok : regOk ops [(0, true), (1, true), (2, true), (5, true), (6, true), (3, true), (4, true), (7, true), (8, true), (9, true), (10, true), (11, true), (12, true)] = true)
    (h0 : ops[0]? = some ⟨(some 36), .move (.tmp 8), y0, q0, f0, none⟩) (h1 : ops[1]? = some ⟨(some 37), .binOp .gtr 3 (.tmp 36) (.const (.int .i64 0)) 3, y1, q1, f1, none⟩) (h2 : ops[2]? = some ⟨(some 38), .move (.tmp 37), y2, q2, f2, none⟩) (h3 : ops[3]? = some ⟨(some 39), .fieldAddr 38 (.tmp 10) 0, y3, q3, f3, (some (2, true))⟩) (h4 : ops[4]? = some ⟨(some 40), .load 3 (.tmp 39), y4, q4, f4, (some (2, true))⟩) (h5 : ops[5]? = some ⟨(some 41), .move (.tmp 7), y5, q5, f5, (some (2, true))⟩) (h6 : ops[6]? = some ⟨(some 42), .move (.tmp 8), y6, q6, f6, (some (2, true))⟩) (h7 : ops[7]? = some ⟨(some 43), .binOp .sub 3 (.tmp 42) (.const (.int .i64 1)) 3, y7, q7, f7, (some (2, true))⟩) (h8 : ops[8]? = some ⟨(some 44), .indexAddr 56 (.tmp 41) (.tmp 43), y8, q8, f8, (some (2, true))⟩) (h9 : ops[9]? = some ⟨(some 45), .fieldAddr 38 (.tmp 44) 1, y9, q9, f9, (some (2, true))⟩) (h10 : ops[10]? = some ⟨(some 46), .load 3 (.tmp 45), y10, q10, f10, (some (2, true))⟩) (h11 : ops[11]? = some ⟨(some 47), .binOp .lss 3 (.tmp 40) (.tmp 46) 3, y11, q11, f11, (some (2, true))⟩) (h12 : ops[12]? = some ⟨(some 48), .pick (.tmp 38) (.tmp 47) (.const (.bool false)), y12, q12, f12, none⟩)
    (hsz : 55 ≤ a.tmps.size) (hQ : ∀ c a (d : Nat) v w, Q (.panic c) (a.put (some d) v) w → Q (.panic c) a w) {k g10 g7 c7 : Nat} {x y : Int} {tv : Bool} (htv : Hid (tv = decide (x < y))) (hk : 0 < k) (hk2 : k ≤ 100000) (e8 : a.eval (.tmp 8) = .int .i64 k) (e10 : a.eval (.tmp 10) = .pointer (some ⟨g10, 0, none⟩)) (e7 : a.eval (.tmp 7) = (.slice (some ⟨g7, 0, none⟩) k c7)) (hx : w.cell? ⟨g10, 0, none⟩ = some (.int .i64 x)) (hy : w.cell? ⟨g7, (k - 1) * 2 + 1, none⟩ = some (.int .i64 y))
    (K : ∀ z0 z1 z2 z3 z4 z5 z6 z7 z8 z9 z10 z11 w', Bel w w' → Q .normal (((((((((((((a.put (some 36) z0).put (some 37) z1).put (some 38) z2).put (some 41) z3).put (some 42) z4).put (some 39) z5).put (some 40) z6).put (some 43) z7).put (some 44) z8).put (some 45) z9).put (some 46) z10).put (some 47) z11).put (some 48) (.bool tv)) w') : (Code.region id ops true).wp Try.prog Q a w := by
  have cx : ∀ W, Bel w.drew W → W.cell? ⟨g10, 0, none⟩ = some (.int .i64 x) := fun W hW => (hW.cell (p := ⟨g10, 0, none⟩) (World.block_lt_of_cell? w.drew _ hx)).trans hx
  have cy : ∀ W, Bel w.drew W → W.cell? ⟨g7, (k - 1) * 2 + 1, none⟩ = some (.int .i64 y) := fun W hW => (hW.cell (p := ⟨g7, (k - 1) * 2 + 1, none⟩) (World.block_lt_of_cell? w.drew _ hy)).trans hy
  have lssk : ∀ W : World, (binOp .lss 3 (.int .i64 x) (.int .i64 y)).run Try.prog W = .ok (.bool tv) W := fun W => by rw [htv.out]; exact lss_int W x y
  have subk : ∀ W : World, (binOp .sub 3 (.int .i64 (k : Int)) (.int .i64 1)).run Try.prog W = .ok (.int .i64 ((k - 1 : Nat) : Int)) W := fun W => by
    have h := sub_int W (k : Int) 1 (by omega)
    rwa [show (k : Int) - 1 = ((k - 1 : Nat) : Int) by omega] at h
  have hB0 := Bel.drew w
  refine wp_region_WB (by kernel_rfl) hok hQ ?_
  refine b_take (i := 0) (d := some 36) (v := (.int .i64 k)) h0 (wanted_none rfl) rfl (fun W hW => x_move rfl e8) ?_
  refine b_take (i := 1) (d := some 37) (v := (.bool true)) h1 (wanted_none rfl) rfl (fun W hW => x_bin rfl (pS hsz (by decide)) rfl (gtr_intT W _ _ (by omega))) ?_
  refine b_take (i := 2) (d := some 38) (v := (.bool true)) h2 (wanted_none rfl) rfl (fun W hW => x_move rfl (pS (pZ hsz) (by decide))) ?_
  refine b_take (i := 5) (d := some 41) (v := (.slice (some ⟨g7, 0, none⟩) k c7)) h5 (wanted_yes rfl h2 rfl (pS (pZ (pZ hsz)) (by decide))) rfl (fun W hW => x_move rfl (pO (by decide) (pO (by decide) (pO (by decide) e7)))) ?_
  refine b_take (i := 6) (d := some 42) (v := (.int .i64 k)) h6 (wanted_yes rfl h2 rfl (pO (by decide) (pS (pZ (pZ hsz)) (by decide)))) rfl (fun W hW => x_move rfl (pO (by decide) (pO (by decide) (pO (by decide) (pO (by decide) e8))))) ?_
  refine b_take (i := 3) (d := some 39) (v := (.pointer (some ⟨g10, 0, none⟩))) h3 (wanted_yes rfl h2 rfl (pO (by decide) (pO (by decide) (pS (pZ (pZ hsz)) (by decide))))) rfl (fun W hW => x_field rfl (pO (by decide) (pO (by decide) (pO (by decide) (pO (by decide) (pO (by decide) e10))))) (field38 W g10 0)) ?_
  refine b_take (i := 4) (d := some 40) (v := (.int .i64 x)) h4 (wanted_yes rfl h2 rfl (pO (by decide) (pO (by decide) (pO (by decide) (pS (pZ (pZ hsz)) (by decide)))))) rfl (fun W hW => exec_load rfl (pS (pZ (pZ (pZ (pZ (pZ hsz))))) (by decide)) (load3 (cx W hW))) ?_
  refine b_take (i := 7) (d := some 43) (v := (.int .i64 ((k - 1 : Nat) : Int))) h7 (wanted_yes rfl h2 rfl (pO (by decide) (pO (by decide) (pO (by decide) (pO (by decide) (pS (pZ (pZ hsz)) (by decide))))))) rfl (fun W hW => x_bin rfl (pO (by decide) (pO (by decide) (pS (pZ (pZ (pZ (pZ hsz)))) (by decide)))) rfl (subk W)) ?_
  refine b_take (i := 8) (d := some 44) (v := (.pointer (some ⟨g7, (k - 1) * 2, none⟩))) h8 (wanted_yes rfl h2 rfl (pO (by decide) (pO (by decide) (pO (by decide) (pO (by decide) (pO (by decide) (pS (pZ (pZ hsz)) (by decide)))))))) rfl (fun W hW => x_index rfl (pO (by decide) (pO (by decide) (pO (by decide) (pO (by decide) (pS (pZ (pZ (pZ hsz))) (by decide)))))) (pS (pZ (pZ (pZ (pZ (pZ (pZ (pZ hsz))))))) (by decide)) (run_idx56 W g7 k c7 (k - 1) (by omega))) ?_
  refine b_take (i := 9) (d := some 45) (v := (.pointer (some ⟨g7, (k - 1) * 2 + 1, none⟩))) h9 (wanted_yes rfl h2 rfl (pO (by decide) (pO (by decide) (pO (by decide) (pO (by decide) (pO (by decide) (pO (by decide) (pS (pZ (pZ hsz)) (by decide))))))))) rfl (fun W hW => x_field rfl (pS (pZ (pZ (pZ (pZ (pZ (pZ (pZ (pZ hsz)))))))) (by decide)) (field38b W g7 _)) ?_
  refine b_take (i := 10) (d := some 46) (v := (.int .i64 y)) h10 (wanted_yes rfl h2 rfl (pO (by decide) (pO (by decide) (pO (by decide) (pO (by decide) (pO (by decide) (pO (by decide) (pO (by decide) (pS (pZ (pZ hsz)) (by decide)))))))))) rfl (fun W hW => exec_load rfl (pS (pZ (pZ (pZ (pZ (pZ (pZ (pZ (pZ (pZ hsz))))))))) (by decide)) (load3 (cy W hW))) ?_
  refine b_take (i := 11) (d := some 47) (v := (.bool tv)) h11 (wanted_yes rfl h2 rfl (pO (by decide) (pO (by decide) (pO (by decide) (pO (by decide) (pO (by decide) (pO (by decide) (pO (by decide) (pO (by decide) (pS (pZ (pZ hsz)) (by decide))))))))))) rfl (fun W hW => x_bin rfl (pO (by decide) (pO (by decide) (pO (by decide) (pO (by decide) (pS (pZ (pZ (pZ (pZ (pZ (pZ hsz)))))) (by decide)))))) (pS (pZ (pZ (pZ (pZ (pZ (pZ (pZ (pZ (pZ (pZ hsz)))))))))) (by decide)) (lssk W)) ?_
  refine b_take (i := 12) (d := some 48) (v := (.bool tv)) h12 (wanted_none rfl) rfl (fun W hW => x_pickT rfl (pO (by decide) (pO (by decide) (pO (by decide) (pO (by decide) (pO (by decide) (pO (by decide) (pO (by decide) (pO (by decide) (pO (by decide) (pS (pZ (pZ hsz)) (by decide))))))))))) (pS (pZ (pZ (pZ (pZ (pZ (pZ (pZ (pZ (pZ (pZ (pZ hsz))))))))))) (by decide))) ?_
  refine b_done ?_
  exact K _ _ _ _ _ _ _ _ _ _ _ _ _ hB0
end Go.Proofs.Ytagkdkkpgcolkaa
