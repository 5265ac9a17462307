/-
  Chapter 10: what the walks of the laws share: duties and presences read, made zones and presences. The memory is that of the given program; no conditions.
-/
import Derived.Test.YtagkdkkpgcolkaaSh25
import Derived.Test.YtagkdkkpgcolkaaSh18
namespace Go.Proofs.Ytagkdkkpgcolkaa
open Go.RowKit
set_option linter.unusedVariables false
set_option linter.unusedSimpArgs false
theorem cfx24 (args : Array Value) (w : World) : (callFunc 24 args).run Try.prog w = .ok (.enter 24 args) w := by kernel_rfl
theorem cfx28 (args : Array Value) (w : World) : (callFunc 28 args).run Try.prog w = .ok (.enter 28 args) w := by kernel_rfl
theorem cfx29 (args : Array Value) (w : World) : (callFunc 29 args).run Try.prog w = .ok (.enter 29 args) w := by kernel_rfl
theorem sub_one (w : World) (k k1 : Nat) (h : k = k1 + 1) (hk : k ≤ 1000000) : (binOp .sub 3 (.int .i64 k) (.int .i64 1)).run Try.prog w = .ok (.int .i64 k1) w := by
  rw [sub_int w _ _ (by omega)]
  subst h
  congr 2
  omega
theorem leq_intT (w : World) (m n : Int) (h : m ≤ n) : (binOp .leq 3 (.int .i64 m) (.int .i64 n)).run Try.prog w = .ok (.bool true) w := by
  simp [binOp, go_sem, und3, h]
theorem leq_intF (w : World) (m n : Int) (h : ¬ m ≤ n) : (binOp .leq 3 (.int .i64 m) (.int .i64 n)).run Try.prog w = .ok (.bool false) w := by
  simp [binOp, go_sem, und3]; omega
theorem geq_intT (w : World) (m n : Int) (h : n ≤ m) : (binOp .geq 3 (.int .i64 m) (.int .i64 n)).run Try.prog w = .ok (.bool true) w := by
  simp [binOp, go_sem, und3, h]
theorem geq_intF (w : World) (m n : Int) (h : ¬ n ≤ m) : (binOp .geq 3 (.int .i64 m) (.int .i64 n)).run Try.prog w = .ok (.bool false) w := by
  simp [binOp, go_sem, und3]; omega
theorem eql_intF (w : World) (m n : Int) (h : ¬ m = n) : (binOp .eql 3 (.int .i64 m) (.int .i64 n)).run Try.prog w = .ok (.bool false) w := by
  simp [binOp, go_sem, und3, h]
theorem len45 (w : World) (ty : TypeId) (A : Option Addr) (n c : Nat) : (Builtin.len_ #[45] ty #[.slice A n c]).run Try.prog w = .ok (.int .i64 n) w := by
  exact run_len_slice (P := Try.prog) w 45 ty A n c (by kernel_rfl)
theorem len26 (w : World) (ty : TypeId) (A : Option Addr) (n c : Nat) : (Builtin.len_ #[26] ty #[.slice A n c]).run Try.prog w = .ok (.int .i64 n) w := by
  exact run_len_slice (P := Try.prog) w 26 ty A n c (by kernel_rfl)
theorem field42 (W : World) (p i : Nat) : (Instr.fieldAt 42 (.pointer (some ⟨p, i, none⟩)) 0).run Try.prog W = .ok (.pointer (some ⟨p, i, none⟩)) W := by kernel_rfl
/-- the duties that were asked for -/
def AsOk (ds : List Du) (w : World) (e : Ending) (w' : World) : Prop := Below w.heap.size w w' ∧ ∃ A c n, n = ds.length ∧ e = .returned (.tuple #[.slice A n c, .int .i64 0]) ∧ RdDu w' A ds ∧ n ≤ c ∧ c ≤ 9223372036854775807
set_option maxHeartbeats 1600000 in
theorem unpl3 {ops : Array Oper} {Q : Exit → Act → World → Prop} {a : Act} {w : World} (id : Nat) {y0 y1 y2 y3 y4 y5 y6 y7 y8 y9 : TypeId} {q0 q1 q2 q3 q4 q5 q6 q7 q8 q9 : String} {f0 f1 f2 f3 f4 f5 f6 f7 f8 f9 : Array Edge} (hok : regT ops (.cons 0 true (.cons 1 true (.cons 2 true (.cons 3 false (.cons 4 false (.cons 5 true (.cons 6 true (.cons 7 true (.cons 8 true (.cons 9 true .nil)))))))))) = true)
    (h0 : ops[0]? = some ⟨(some 21), .load 25 (.tmp 6), y0, q0, f0, none⟩) (h1 : ops[1]? = some ⟨(some 22), .move (.tmp 7), y1, q1, f1, none⟩) (h2 : ops[2]? = some ⟨(some 23), .move (.tmp 1), y2, q2, f2, none⟩) (h3 : ops[3]? = some ⟨(some 24), .call { callee := .value (.func 28), args := #[.tmp 23, .const (.int .i64 1441)], argTypes := #[3, 3] }, y3, q3, f3, none⟩) (h4 : ops[4]? = some ⟨(some 25), .call { callee := .value (.func 24), args := #[.tmp 21, .const (.slice none 0 0), .tmp 22, .tmp 24, .const (.int .i64 0)], argTypes := #[25, 26, 45, 3, 3] }, y4, q4, f4, none⟩) (h5 : ops[5]? = some ⟨(some 20), .move (.tmp 25), y5, q5, f5, none⟩) (h6 : ops[6]? = some ⟨(some 26), .extract (.tmp 20) 0, y6, q6, f6, none⟩) (h7 : ops[7]? = some ⟨(some 27), .extract (.tmp 20) 1, y7, q7, f7, none⟩) (h8 : ops[8]? = some ⟨(some 8), .assign (.tmp 26), y8, q8, f8, none⟩) (h9 : ops[9]? = some ⟨(some 9), .assign (.tmp 27), y9, q9, f9, none⟩)
    (hsz : 97 ≤ a.tmps.size) (hQ : ∀ c a (d : Nat) v w, Q (.panic c) (a.put (some d) v) w → Q (.panic c) a w) {gz zn zc ln lc : Nat} {o early ev : Int} {zA lA : Option Addr} {ds : List Du} (e6 : a.eval (.tmp 6) = (.pointer (some ⟨gz, 0, none⟩))) (e7 : a.eval (.tmp 7) = (.slice lA ln lc)) (e1 : a.eval (.tmp 1) = (.int .i64 early))
    (hz0 : w.cell? ⟨gz, 0, none⟩ = some (.int .i64 o)) (hz1 : w.cell? ⟨gz, 1, none⟩ = some (.slice zA zn zc)) (cM : ∀ W, Bel w W → Calls Try.prog 28 #[.int .i64 early, .int .i64 1441] W (RetI ev W)) (cA : ∀ W, Bel w W → Calls Try.prog 24 #[(.agg #[.int .i64 o, .slice zA zn zc]), .slice none 0 0, .slice lA ln lc, .int .i64 ev, .int .i64 0] W (AsOk ds W))
    (K : ∀ z0 z1 z2 z3 z4 z5 z6 z7 A9 n9 c9 w', Hid (Bel w w') → Hid (n9 = ds.length) → Hid (RdDu w' A9 ds) → Q .normal ((((((((((a.put (some 21) z0).put (some 22) z1).put (some 23) z2).put (some 24) z3).put (some 25) z4).put (some 20) z5).put (some 26) z6).put (some 27) z7).put (some 8) (.slice A9 n9 c9)).put (some 9) (.int .i64 0)) w') : (Code.region id ops true).wp Try.prog Q a w := by
  have kc : ∀ {p : Addr} {v : Value}, w.cell? p = some v → ∀ W, Bel w.drew W → W.cell? p = some v := fun {p} {v} h W hW => (hW.cell (p := p) (World.block_lt_of_cell? w.drew _ h)).trans h
  have hB0 := Bel.drew w
  refine wp_region_WN (by kernel_rfl) hok hQ ?_
  refine n_take (i := 0) (d := some 21) (v := (.agg #[.int .i64 o, .slice zA zn zc])) h0 (wanted_none rfl) rfl (fun W hW => exec_load rfl e6 (load25 (kc hz0 W hW) (kc hz1 W hW))) ?_
  refine n_take (i := 1) (d := some 22) (v := (.slice lA ln lc)) h1 (wanted_none rfl) rfl (fun W hW => x_move rfl (pO (by decide) e7)) ?_
  refine n_take (i := 2) (d := some 23) (v := (.int .i64 early)) h2 (wanted_none rfl) rfl (fun W hW => x_move rfl (pO (by decide) (pO (by decide) e1))) ?_
  refine n_call (i := 3) (d := some 24) h3 (wanted_none rfl) rfl (x_call2 rfl (pS (pZ (pZ hsz)) (by decide)) rfl (cfx28 _ _)) (Calls.mono (cM _ hB0) ?_)
  rintro e w1 ⟨rfl, hb1⟩
  refine ⟨_, rfl, hb1, ?_⟩
  have hB1 := Bel.trans hB0 hb1
  refine n_call (i := 4) (d := some 25) h4 (wanted_none rfl) rfl (x_call5 rfl (pO (by decide) (pO (by decide) (pO (by decide) (pS hsz (by decide))))) rfl (pO (by decide) (pO (by decide) (pS (pZ hsz) (by decide)))) (pS (pZ (pZ (pZ hsz))) (by decide)) rfl (cfx24 _ _)) (Calls.mono (cA _ hB1) ?_)
  rintro e w2 ⟨hb2, A9, c9, n9, hn9, rfl, hd9, hc9⟩
  refine ⟨_, rfl, Bel.trans hb1 hb2, ?_⟩
  have hB2 := Bel.trans hB1 hb2
  refine n_take (i := 5) (d := some 20) (v := (.tuple #[.slice A9 n9 c9, .int .i64 0])) h5 (wanted_none rfl) rfl (fun W hW => x_move rfl (pS (pZ (pZ (pZ (pZ hsz)))) (by decide))) ?_
  refine n_take (i := 6) (d := some 26) (v := (.slice A9 n9 c9)) h6 (wanted_none rfl) rfl (fun W hW => x_extract rfl (pS (pZ (pZ (pZ (pZ (pZ hsz))))) (by decide)) rfl) ?_
  refine n_take (i := 7) (d := some 27) (v := (.int .i64 0)) h7 (wanted_none rfl) rfl (fun W hW => x_extract rfl (pO (by decide) (pS (pZ (pZ (pZ (pZ (pZ hsz))))) (by decide))) rfl) ?_
  refine n_take (i := 8) (d := some 8) (v := (.slice A9 n9 c9)) h8 (wanted_none rfl) rfl (fun W hW => x_assign rfl (pO (by decide) (pS (pZ (pZ (pZ (pZ (pZ (pZ hsz)))))) (by decide)))) ?_
  refine n_take (i := 9) (d := some 9) (v := (.int .i64 0)) h9 (wanted_none rfl) rfl (fun W hW => x_assign rfl (pO (by decide) (pS (pZ (pZ (pZ (pZ (pZ (pZ (pZ hsz))))))) (by decide)))) ?_
  refine n_done ?_
  exact K _ _ _ _ _ _ _ _ _ _ _ _ (Lib.hid hB2) (Lib.hid hn9) (Lib.hid hd9)
set_option maxHeartbeats 1600000 in
theorem unpl12 {ops : Array Oper} {Q : Exit → Act → World → Prop} {a : Act} {w : World} (id : Nat) {y0 y1 y2 y3 y4 y5 y6 y7 y8 y9 y10 y11 y12 y13 y14 y15 y16 : TypeId} {q0 q1 q2 q3 q4 q5 q6 q7 q8 q9 q10 q11 q12 q13 q14 q15 q16 : String} {f0 f1 f2 f3 f4 f5 f6 f7 f8 f9 f10 f11 f12 f13 f14 f15 f16 : Array Edge} (hok : regT ops (.cons 0 true (.cons 1 true (.cons 2 true (.cons 3 true (.cons 4 true (.cons 5 true (.cons 6 true (.cons 7 true (.cons 8 true (.cons 9 true (.cons 10 true (.cons 11 false (.cons 12 true (.cons 13 true (.cons 14 true (.cons 15 true (.cons 16 true .nil))))))))))))))))) = true)
    (h0 : ops[0]? = some ⟨(some 47), .load 25 (.tmp 6), y0, q0, f0, none⟩) (h1 : ops[1]? = some ⟨(some 48), .move (.tmp 8), y1, q1, f1, none⟩) (h2 : ops[2]? = some ⟨(some 49), .move (.tmp 10), y2, q2, f2, none⟩) (h3 : ops[3]? = some ⟨(some 50), .indexAddr 49 (.tmp 48) (.tmp 49), y3, q3, f3, none⟩) (h4 : ops[4]? = some ⟨(some 51), .fieldAddr 55 (.tmp 50) 2, y4, q4, f4, none⟩) (h5 : ops[5]? = some ⟨(some 52), .load 45 (.tmp 51), y5, q5, f5, none⟩) (h6 : ops[6]? = some ⟨(some 53), .move (.tmp 11), y6, q6, f6, none⟩) (h7 : ops[7]? = some ⟨(some 54), .indexAddr 45 (.tmp 52) (.tmp 53), y7, q7, f7, none⟩) (h8 : ops[8]? = some ⟨(some 55), .fieldAddr 58 (.tmp 54) 0, y8, q8, f8, none⟩) (h9 : ops[9]? = some ⟨(some 56), .fieldAddr 38 (.tmp 55) 0, y9, q9, f9, none⟩) (h10 : ops[10]? = some ⟨(some 57), .load 3 (.tmp 56), y10, q10, f10, none⟩) (h11 : ops[11]? = some ⟨(some 58), .call { callee := .value (.func 29), args := #[.tmp 47, .tmp 57], argTypes := #[25, 3] }, y11, q11, f11, none⟩) (h12 : ops[12]? = some ⟨(some 46), .move (.tmp 58), y12, q12, f12, none⟩) (h13 : ops[13]? = some ⟨(some 59), .extract (.tmp 46) 0, y13, q13, f13, none⟩) (h14 : ops[14]? = some ⟨(some 60), .extract (.tmp 46) 1, y14, q14, f14, none⟩) (h15 : ops[15]? = some ⟨(some 12), .assign (.tmp 59), y15, q15, f15, none⟩) (h16 : ops[16]? = some ⟨(some 13), .assign (.tmp 60), y16, q16, f16, none⟩)
    (hsz : 97 ≤ a.tmps.size) (hQ : ∀ c a (d : Nat) v w, Q (.panic c) (a.put (some d) v) w → Q (.panic c) a w) {gz zn zc gD n c i gP oP m cb j : Nat} {o f y : Int} {zA : Option Addr} (e6 : a.eval (.tmp 6) = (.pointer (some ⟨gz, 0, none⟩))) (e8 : a.eval (.tmp 8) = (.slice (some ⟨gD, 0, none⟩) n c)) (e10 : a.eval (.tmp 10) = (.int .i64 i)) (e11 : a.eval (.tmp 11) = (.int .i64 j)) (hi : i < n) (hj : j < m) (hz0 : w.cell? ⟨gz, 0, none⟩ = some (.int .i64 o)) (hz1 : w.cell? ⟨gz, 1, none⟩ = some (.slice zA zn zc)) (hP : w.cell? ⟨gD, i * 3 + 2, none⟩ = some (.slice (some ⟨gP, oP, none⟩) m cb)) (hf : w.cell? ⟨gP, oP + j * 3, none⟩ = some (.int .i64 f)) (cD : ∀ W, Bel w W → Calls Try.prog 29 #[(.agg #[.int .i64 o, .slice zA zn zc]), .int .i64 f] W (RetII y 0 W))
    (K : ∀ z0 z1 z2 z3 z4 z5 z6 z7 z8 z9 z10 z11 z12 z13 z14 w', Hid (Bel w w') → Q .normal (((((((((((((((((a.put (some 47) z0).put (some 48) z1).put (some 49) z2).put (some 50) z3).put (some 51) z4).put (some 52) z5).put (some 53) z6).put (some 54) z7).put (some 55) z8).put (some 56) z9).put (some 57) z10).put (some 58) z11).put (some 46) z12).put (some 59) z13).put (some 60) z14).put (some 12) (.int .i64 y)).put (some 13) (.int .i64 0)) w') : (Code.region id ops true).wp Try.prog Q a w := by
  have kc : ∀ {p : Addr} {v : Value}, w.cell? p = some v → ∀ W, Bel w.drew W → W.cell? p = some v := fun {p} {v} h W hW => (hW.cell (p := p) (World.block_lt_of_cell? w.drew _ h)).trans h
  have hB0 := Bel.drew w
  refine wp_region_WN (by kernel_rfl) hok hQ ?_
  refine n_take (i := 0) (d := some 47) (v := (.agg #[.int .i64 o, .slice zA zn zc])) h0 (wanted_none rfl) rfl (fun W hW => exec_load rfl e6 (load25 (kc hz0 W hW) (kc hz1 W hW))) ?_
  refine n_take (i := 1) (d := some 48) (v := (.slice (some ⟨gD, 0, none⟩) n c)) h1 (wanted_none rfl) rfl (fun W hW => x_move rfl (pO (by decide) e8)) ?_
  refine n_take (i := 2) (d := some 49) (v := (.int .i64 i)) h2 (wanted_none rfl) rfl (fun W hW => x_move rfl (pO (by decide) (pO (by decide) e10))) ?_
  refine n_take (i := 3) (d := some 50) (v := (.pointer (some ⟨gD, i * 3, none⟩))) h3 (wanted_none rfl) rfl (fun W hW => x_index rfl (pO (by decide) (pS (pZ hsz) (by decide))) (pS (pZ (pZ hsz)) (by decide)) (run_idx49 W gD n c i hi)) ?_
  refine n_take (i := 4) (d := some 51) (v := (.pointer (some ⟨gD, i * 3 + 2, none⟩))) h4 (wanted_none rfl) rfl (fun W hW => x_field rfl (pS (pZ (pZ (pZ hsz))) (by decide)) (field55 W gD _)) ?_
  refine n_take (i := 5) (d := some 52) (v := (.slice (some ⟨gP, oP, none⟩) m cb)) h5 (wanted_none rfl) rfl (fun W hW => exec_load rfl (pS (pZ (pZ (pZ (pZ hsz)))) (by decide)) (load45 (kc hP W hW))) ?_
  refine n_take (i := 6) (d := some 53) (v := (.int .i64 j)) h6 (wanted_none rfl) rfl (fun W hW => x_move rfl (pO (by decide) (pO (by decide) (pO (by decide) (pO (by decide) (pO (by decide) (pO (by decide) e11))))))) ?_
  refine n_take (i := 7) (d := some 54) (v := (.pointer (some ⟨gP, oP + j * 3, none⟩))) h7 (wanted_none rfl) rfl (fun W hW => x_index rfl (pO (by decide) (pS (pZ (pZ (pZ (pZ (pZ hsz))))) (by decide))) (pS (pZ (pZ (pZ (pZ (pZ (pZ hsz)))))) (by decide)) (run_idx45 W gP oP m cb j hj)) ?_
  refine n_take (i := 8) (d := some 55) (v := (.pointer (some ⟨gP, oP + j * 3, none⟩))) h8 (wanted_none rfl) rfl (fun W hW => x_field rfl (pS (pZ (pZ (pZ (pZ (pZ (pZ (pZ hsz))))))) (by decide)) (field58 W gP _)) ?_
  refine n_take (i := 9) (d := some 56) (v := (.pointer (some ⟨gP, oP + j * 3, none⟩))) h9 (wanted_none rfl) rfl (fun W hW => x_field rfl (pS (pZ (pZ (pZ (pZ (pZ (pZ (pZ (pZ hsz)))))))) (by decide)) (field38 W gP _)) ?_
  refine n_take (i := 10) (d := some 57) (v := (.int .i64 f)) h10 (wanted_none rfl) rfl (fun W hW => exec_load rfl (pS (pZ (pZ (pZ (pZ (pZ (pZ (pZ (pZ (pZ hsz))))))))) (by decide)) (load3 (kc hf W hW))) ?_
  refine n_call (i := 11) (d := some 58) h11 (wanted_none rfl) rfl (x_call2 rfl (pO (by decide) (pO (by decide) (pO (by decide) (pO (by decide) (pO (by decide) (pO (by decide) (pO (by decide) (pO (by decide) (pO (by decide) (pO (by decide) (pS hsz (by decide)))))))))))) (pS (pZ (pZ (pZ (pZ (pZ (pZ (pZ (pZ (pZ (pZ hsz)))))))))) (by decide)) (cfx29 _ _)) (Calls.mono (cD _ hB0) ?_)
  rintro e w1 ⟨rfl, hb1⟩
  refine ⟨_, rfl, hb1, ?_⟩
  have hB1 := Bel.trans hB0 hb1
  refine n_take (i := 12) (d := some 46) (v := (.tuple #[.int .i64 y, .int .i64 0])) h12 (wanted_none rfl) rfl (fun W hW => x_move rfl (pS (pZ (pZ (pZ (pZ (pZ (pZ (pZ (pZ (pZ (pZ (pZ hsz))))))))))) (by decide))) ?_
  refine n_take (i := 13) (d := some 59) (v := (.int .i64 y)) h13 (wanted_none rfl) rfl (fun W hW => x_extract rfl (pS (pZ (pZ (pZ (pZ (pZ (pZ (pZ (pZ (pZ (pZ (pZ (pZ hsz)))))))))))) (by decide)) rfl) ?_
  refine n_take (i := 14) (d := some 60) (v := (.int .i64 0)) h14 (wanted_none rfl) rfl (fun W hW => x_extract rfl (pO (by decide) (pS (pZ (pZ (pZ (pZ (pZ (pZ (pZ (pZ (pZ (pZ (pZ (pZ hsz)))))))))))) (by decide))) rfl) ?_
  refine n_take (i := 15) (d := some 12) (v := (.int .i64 y)) h15 (wanted_none rfl) rfl (fun W hW => x_assign rfl (pO (by decide) (pS (pZ (pZ (pZ (pZ (pZ (pZ (pZ (pZ (pZ (pZ (pZ (pZ (pZ hsz))))))))))))) (by decide)))) ?_
  refine n_take (i := 16) (d := some 13) (v := (.int .i64 0)) h16 (wanted_none rfl) rfl (fun W hW => x_assign rfl (pO (by decide) (pS (pZ (pZ (pZ (pZ (pZ (pZ (pZ (pZ (pZ (pZ (pZ (pZ (pZ (pZ hsz)))))))))))))) (by decide)))) ?_
  refine n_done ?_
  exact K _ _ _ _ _ _ _ _ _ _ _ _ _ _ _ _ (Lib.hid hB1)
set_option maxHeartbeats 1600000 in
theorem unpl15a {ops : Array Oper} {Q : Exit → Act → World → Prop} {a : Act} {w : World} (id : Nat) {y0 y1 y2 y3 y4 y5 y6 y7 y8 y9 y10 y11 y12 y13 y14 y15 : TypeId} {q0 q1 q2 q3 q4 q5 q6 q7 q8 q9 q10 q11 q12 q13 q14 q15 : String} {f0 f1 f2 f3 f4 f5 f6 f7 f8 f9 f10 f11 f12 f13 f14 f15 : Array Edge} (hok : regT ops (.cons 0 true (.cons 1 true (.cons 2 true (.cons 3 true (.cons 4 true (.cons 5 true (.cons 6 true (.cons 7 true (.cons 8 true (.cons 9 true (.cons 10 true (.cons 11 true (.cons 12 true (.cons 13 true (.cons 14 true (.cons 15 true .nil)))))))))))))))) = true)
    (h0 : ops[0]? = some ⟨(some 80), .move (.tmp 10), y0, q0, f0, none⟩) (h1 : ops[1]? = some ⟨(some 81), .binOp .gtr 3 (.tmp 80) (.const (.int .i64 0)) 3, y1, q1, f1, none⟩) (h2 : ops[2]? = some ⟨(some 82), .move (.tmp 81), y2, q2, f2, none⟩) (h3 : ops[3]? = some ⟨(some 83), .move (.tmp 8), y3, q3, f3, (some (2, true))⟩) (h4 : ops[4]? = some ⟨(some 84), .move (.tmp 10), y4, q4, f4, (some (2, true))⟩) (h5 : ops[5]? = some ⟨(some 85), .indexAddr 49 (.tmp 83) (.tmp 84), y5, q5, f5, (some (2, true))⟩) (h6 : ops[6]? = some ⟨(some 86), .fieldAddr 55 (.tmp 85) 1, y6, q6, f6, (some (2, true))⟩) (h7 : ops[7]? = some ⟨(some 87), .load 3 (.tmp 86), y7, q7, f7, (some (2, true))⟩) (h8 : ops[8]? = some ⟨(some 88), .move (.tmp 8), y8, q8, f8, (some (2, true))⟩) (h9 : ops[9]? = some ⟨(some 89), .move (.tmp 10), y9, q9, f9, (some (2, true))⟩) (h10 : ops[10]? = some ⟨(some 90), .binOp .sub 3 (.tmp 89) (.const (.int .i64 1)) 3, y10, q10, f10, (some (2, true))⟩) (h11 : ops[11]? = some ⟨(some 91), .indexAddr 49 (.tmp 88) (.tmp 90), y11, q11, f11, (some (2, true))⟩) (h12 : ops[12]? = some ⟨(some 92), .fieldAddr 55 (.tmp 91) 1, y12, q12, f12, (some (2, true))⟩) (h13 : ops[13]? = some ⟨(some 93), .load 3 (.tmp 92), y13, q13, f13, (some (2, true))⟩) (h14 : ops[14]? = some ⟨(some 94), .binOp .leq 3 (.tmp 87) (.tmp 93) 3, y14, q14, f14, (some (2, true))⟩) (h15 : ops[15]? = some ⟨(some 95), .pick (.tmp 82) (.tmp 94) (.const (.bool false)), y15, q15, f15, none⟩)
    (hsz : 97 ≤ a.tmps.size) (hQ : ∀ c a (d : Nat) v w, Q (.panic c) (a.put (some d) v) w → Q (.panic c) a w) {A : Option Addr} {n c : Nat} (e8 : a.eval (.tmp 8) = (.slice A n c)) (e10 : a.eval (.tmp 10) = (.int .i64 0))
    (K : ∀ z0 z1 z2 z3 z4 z5 z6 z7 z8 z9 z10 z11 z12 z13 z14 w', Hid (Bel w w') → Q .normal ((((((((((((((((a.put (some 80) z0).put (some 81) z1).put (some 82) z2).put (some 83) z3).put (some 84) z4).put (some 85) z5).put (some 86) z6).put (some 87) z7).put (some 88) z8).put (some 89) z9).put (some 90) z10).put (some 91) z11).put (some 92) z12).put (some 93) z13).put (some 94) z14).put (some 95) (.bool false)) w') : (Code.region id ops true).wp Try.prog Q a w := by
  have kc : ∀ {p : Addr} {v : Value}, w.cell? p = some v → ∀ W, Bel w.drew W → W.cell? p = some v := fun {p} {v} h W hW => (hW.cell (p := p) (World.block_lt_of_cell? w.drew _ h)).trans h
  have hB0 := Bel.drew w
  refine wp_region_WN (by kernel_rfl) hok hQ ?_
  refine n_take (i := 0) (d := some 80) (v := (.int .i64 0)) h0 (wanted_none rfl) rfl (fun W hW => x_move rfl e10) ?_
  refine n_take (i := 1) (d := some 81) (v := (.bool false)) h1 (wanted_none rfl) rfl (fun W hW => x_bin rfl (pS hsz (by decide)) rfl (gtr_intF W _ _ (by omega))) ?_
  refine n_take (i := 2) (d := some 82) (v := (.bool false)) h2 (wanted_none rfl) rfl (fun W hW => x_move rfl (pS (pZ hsz) (by decide))) ?_
  refine n_skip (i := 3) (d := some 83) h3 (wanted_no rfl h2 rfl (pS (pZ (pZ hsz)) (by decide))) rfl ?_
  refine n_skip (i := 4) (d := some 84) h4 (wanted_no rfl h2 rfl (pO (by decide) (pS (pZ (pZ hsz)) (by decide)))) rfl ?_
  refine n_skip (i := 5) (d := some 85) h5 (wanted_no rfl h2 rfl (pO (by decide) (pO (by decide) (pS (pZ (pZ hsz)) (by decide))))) rfl ?_
  refine n_skip (i := 6) (d := some 86) h6 (wanted_no rfl h2 rfl (pO (by decide) (pO (by decide) (pO (by decide) (pS (pZ (pZ hsz)) (by decide)))))) rfl ?_
  refine n_skip (i := 7) (d := some 87) h7 (wanted_no rfl h2 rfl (pO (by decide) (pO (by decide) (pO (by decide) (pO (by decide) (pS (pZ (pZ hsz)) (by decide))))))) rfl ?_
  refine n_skip (i := 8) (d := some 88) h8 (wanted_no rfl h2 rfl (pO (by decide) (pO (by decide) (pO (by decide) (pO (by decide) (pO (by decide) (pS (pZ (pZ hsz)) (by decide)))))))) rfl ?_
  refine n_skip (i := 9) (d := some 89) h9 (wanted_no rfl h2 rfl (pO (by decide) (pO (by decide) (pO (by decide) (pO (by decide) (pO (by decide) (pO (by decide) (pS (pZ (pZ hsz)) (by decide))))))))) rfl ?_
  refine n_skip (i := 10) (d := some 90) h10 (wanted_no rfl h2 rfl (pO (by decide) (pO (by decide) (pO (by decide) (pO (by decide) (pO (by decide) (pO (by decide) (pO (by decide) (pS (pZ (pZ hsz)) (by decide)))))))))) rfl ?_
  refine n_skip (i := 11) (d := some 91) h11 (wanted_no rfl h2 rfl (pO (by decide) (pO (by decide) (pO (by decide) (pO (by decide) (pO (by decide) (pO (by decide) (pO (by decide) (pO (by decide) (pS (pZ (pZ hsz)) (by decide))))))))))) rfl ?_
  refine n_skip (i := 12) (d := some 92) h12 (wanted_no rfl h2 rfl (pO (by decide) (pO (by decide) (pO (by decide) (pO (by decide) (pO (by decide) (pO (by decide) (pO (by decide) (pO (by decide) (pO (by decide) (pS (pZ (pZ hsz)) (by decide)))))))))))) rfl ?_
  refine n_skip (i := 13) (d := some 93) h13 (wanted_no rfl h2 rfl (pO (by decide) (pO (by decide) (pO (by decide) (pO (by decide) (pO (by decide) (pO (by decide) (pO (by decide) (pO (by decide) (pO (by decide) (pO (by decide) (pS (pZ (pZ hsz)) (by decide))))))))))))) rfl ?_
  refine n_skip (i := 14) (d := some 94) h14 (wanted_no rfl h2 rfl (pO (by decide) (pO (by decide) (pO (by decide) (pO (by decide) (pO (by decide) (pO (by decide) (pO (by decide) (pO (by decide) (pO (by decide) (pO (by decide) (pO (by decide) (pS (pZ (pZ hsz)) (by decide)))))))))))))) rfl ?_
  refine n_take (i := 15) (d := some 95) (v := (.bool false)) h15 (wanted_none rfl) rfl (fun W hW => x_pickF rfl (pO (by decide) (pO (by decide) (pO (by decide) (pO (by decide) (pO (by decide) (pO (by decide) (pO (by decide) (pO (by decide) (pO (by decide) (pO (by decide) (pO (by decide) (pO (by decide) (pS (pZ (pZ hsz)) (by decide)))))))))))))) rfl) ?_
  refine n_done ?_
  exact K _ _ _ _ _ _ _ _ _ _ _ _ _ _ _ _ (Lib.hid hB0)
set_option maxHeartbeats 1600000 in
theorem unpl15b {ops : Array Oper} {Q : Exit → Act → World → Prop} {a : Act} {w : World} (id : Nat) {y0 y1 y2 y3 y4 y5 y6 y7 y8 y9 y10 y11 y12 y13 y14 y15 : TypeId} {q0 q1 q2 q3 q4 q5 q6 q7 q8 q9 q10 q11 q12 q13 q14 q15 : String} {f0 f1 f2 f3 f4 f5 f6 f7 f8 f9 f10 f11 f12 f13 f14 f15 : Array Edge} (hok : regT ops (.cons 0 true (.cons 1 true (.cons 2 true (.cons 3 true (.cons 4 true (.cons 5 true (.cons 6 true (.cons 7 true (.cons 8 true (.cons 9 true (.cons 10 true (.cons 11 true (.cons 12 true (.cons 13 true (.cons 14 true (.cons 15 true .nil)))))))))))))))) = true)
    (h0 : ops[0]? = some ⟨(some 80), .move (.tmp 10), y0, q0, f0, none⟩) (h1 : ops[1]? = some ⟨(some 81), .binOp .gtr 3 (.tmp 80) (.const (.int .i64 0)) 3, y1, q1, f1, none⟩) (h2 : ops[2]? = some ⟨(some 82), .move (.tmp 81), y2, q2, f2, none⟩) (h3 : ops[3]? = some ⟨(some 83), .move (.tmp 8), y3, q3, f3, (some (2, true))⟩) (h4 : ops[4]? = some ⟨(some 84), .move (.tmp 10), y4, q4, f4, (some (2, true))⟩) (h5 : ops[5]? = some ⟨(some 85), .indexAddr 49 (.tmp 83) (.tmp 84), y5, q5, f5, (some (2, true))⟩) (h6 : ops[6]? = some ⟨(some 86), .fieldAddr 55 (.tmp 85) 1, y6, q6, f6, (some (2, true))⟩) (h7 : ops[7]? = some ⟨(some 87), .load 3 (.tmp 86), y7, q7, f7, (some (2, true))⟩) (h8 : ops[8]? = some ⟨(some 88), .move (.tmp 8), y8, q8, f8, (some (2, true))⟩) (h9 : ops[9]? = some ⟨(some 89), .move (.tmp 10), y9, q9, f9, (some (2, true))⟩) (h10 : ops[10]? = some ⟨(some 90), .binOp .sub 3 (.tmp 89) (.const (.int .i64 1)) 3, y10, q10, f10, (some (2, true))⟩) (h11 : ops[11]? = some ⟨(some 91), .indexAddr 49 (.tmp 88) (.tmp 90), y11, q11, f11, (some (2, true))⟩) (h12 : ops[12]? = some ⟨(some 92), .fieldAddr 55 (.tmp 91) 1, y12, q12, f12, (some (2, true))⟩) (h13 : ops[13]? = some ⟨(some 93), .load 3 (.tmp 92), y13, q13, f13, (some (2, true))⟩) (h14 : ops[14]? = some ⟨(some 94), .binOp .leq 3 (.tmp 87) (.tmp 93) 3, y14, q14, f14, (some (2, true))⟩) (h15 : ops[15]? = some ⟨(some 95), .pick (.tmp 82) (.tmp 94) (.const (.bool false)), y15, q15, f15, none⟩)
    (hsz : 97 ≤ a.tmps.size) (hQ : ∀ c a (d : Nat) v w, Q (.panic c) (a.put (some d) v) w → Q (.panic c) a w) {gD n c i i1 : Nat} {y yb : Int} (e8 : a.eval (.tmp 8) = (.slice (some ⟨gD, 0, none⟩) n c)) (e10 : a.eval (.tmp 10) = (.int .i64 i)) (hi : i < n) (hi1 : i = i1 + 1) (hn : n ≤ 100000) (hy : w.cell? ⟨gD, i * 3 + 1, none⟩ = some (.int .i64 y)) (hy1 : w.cell? ⟨gD, i1 * 3 + 1, none⟩ = some (.int .i64 yb)) (hlt : yb < y)
    (K : ∀ z0 z1 z2 z3 z4 z5 z6 z7 z8 z9 z10 z11 z12 z13 z14 w', Hid (Bel w w') → Q .normal ((((((((((((((((a.put (some 80) z0).put (some 81) z1).put (some 82) z2).put (some 83) z3).put (some 84) z4).put (some 85) z5).put (some 86) z6).put (some 87) z7).put (some 88) z8).put (some 89) z9).put (some 90) z10).put (some 91) z11).put (some 92) z12).put (some 93) z13).put (some 94) z14).put (some 95) (.bool false)) w') : (Code.region id ops true).wp Try.prog Q a w := by
  have kc : ∀ {p : Addr} {v : Value}, w.cell? p = some v → ∀ W, Bel w.drew W → W.cell? p = some v := fun {p} {v} h W hW => (hW.cell (p := p) (World.block_lt_of_cell? w.drew _ h)).trans h
  have hB0 := Bel.drew w
  refine wp_region_WN (by kernel_rfl) hok hQ ?_
  refine n_take (i := 0) (d := some 80) (v := (.int .i64 i)) h0 (wanted_none rfl) rfl (fun W hW => x_move rfl e10) ?_
  refine n_take (i := 1) (d := some 81) (v := (.bool true)) h1 (wanted_none rfl) rfl (fun W hW => x_bin rfl (pS hsz (by decide)) rfl (gtr_intT W _ _ (by omega))) ?_
  refine n_take (i := 2) (d := some 82) (v := (.bool true)) h2 (wanted_none rfl) rfl (fun W hW => x_move rfl (pS (pZ hsz) (by decide))) ?_
  refine n_take (i := 3) (d := some 83) (v := (.slice (some ⟨gD, 0, none⟩) n c)) h3 (wanted_yes rfl h2 rfl (pS (pZ (pZ hsz)) (by decide))) rfl (fun W hW => x_move rfl (pO (by decide) (pO (by decide) (pO (by decide) e8)))) ?_
  refine n_take (i := 4) (d := some 84) (v := (.int .i64 i)) h4 (wanted_yes rfl h2 rfl (pO (by decide) (pS (pZ (pZ hsz)) (by decide)))) rfl (fun W hW => x_move rfl (pO (by decide) (pO (by decide) (pO (by decide) (pO (by decide) e10))))) ?_
  refine n_take (i := 5) (d := some 85) (v := (.pointer (some ⟨gD, i * 3, none⟩))) h5 (wanted_yes rfl h2 rfl (pO (by decide) (pO (by decide) (pS (pZ (pZ hsz)) (by decide))))) rfl (fun W hW => x_index rfl (pO (by decide) (pS (pZ (pZ (pZ hsz))) (by decide))) (pS (pZ (pZ (pZ (pZ hsz)))) (by decide)) (run_idx49 W gD n c i hi)) ?_
  refine n_take (i := 6) (d := some 86) (v := (.pointer (some ⟨gD, i * 3 + 1, none⟩))) h6 (wanted_yes rfl h2 rfl (pO (by decide) (pO (by decide) (pO (by decide) (pS (pZ (pZ hsz)) (by decide)))))) rfl (fun W hW => x_field rfl (pS (pZ (pZ (pZ (pZ (pZ hsz))))) (by decide)) (field55c W gD _)) ?_
  refine n_take (i := 7) (d := some 87) (v := (.int .i64 y)) h7 (wanted_yes rfl h2 rfl (pO (by decide) (pO (by decide) (pO (by decide) (pO (by decide) (pS (pZ (pZ hsz)) (by decide))))))) rfl (fun W hW => exec_load rfl (pS (pZ (pZ (pZ (pZ (pZ (pZ hsz)))))) (by decide)) (load3 (kc hy W hW))) ?_
  refine n_take (i := 8) (d := some 88) (v := (.slice (some ⟨gD, 0, none⟩) n c)) h8 (wanted_yes rfl h2 rfl (pO (by decide) (pO (by decide) (pO (by decide) (pO (by decide) (pO (by decide) (pS (pZ (pZ hsz)) (by decide)))))))) rfl (fun W hW => x_move rfl (pO (by decide) (pO (by decide) (pO (by decide) (pO (by decide) (pO (by decide) (pO (by decide) (pO (by decide) (pO (by decide) e8))))))))) ?_
  refine n_take (i := 9) (d := some 89) (v := (.int .i64 i)) h9 (wanted_yes rfl h2 rfl (pO (by decide) (pO (by decide) (pO (by decide) (pO (by decide) (pO (by decide) (pO (by decide) (pS (pZ (pZ hsz)) (by decide))))))))) rfl (fun W hW => x_move rfl (pO (by decide) (pO (by decide) (pO (by decide) (pO (by decide) (pO (by decide) (pO (by decide) (pO (by decide) (pO (by decide) (pO (by decide) e10)))))))))) ?_
  refine n_take (i := 10) (d := some 90) (v := (.int .i64 i1)) h10 (wanted_yes rfl h2 rfl (pO (by decide) (pO (by decide) (pO (by decide) (pO (by decide) (pO (by decide) (pO (by decide) (pO (by decide) (pS (pZ (pZ hsz)) (by decide)))))))))) rfl (fun W hW => x_bin rfl (pS (pZ (pZ (pZ (pZ (pZ (pZ (pZ (pZ (pZ hsz))))))))) (by decide)) rfl (sub_one W i i1 hi1 (by omega))) ?_
  refine n_take (i := 11) (d := some 91) (v := (.pointer (some ⟨gD, i1 * 3, none⟩))) h11 (wanted_yes rfl h2 rfl (pO (by decide) (pO (by decide) (pO (by decide) (pO (by decide) (pO (by decide) (pO (by decide) (pO (by decide) (pO (by decide) (pS (pZ (pZ hsz)) (by decide))))))))))) rfl (fun W hW => x_index rfl (pO (by decide) (pO (by decide) (pS (pZ (pZ (pZ (pZ (pZ (pZ (pZ (pZ hsz)))))))) (by decide)))) (pS (pZ (pZ (pZ (pZ (pZ (pZ (pZ (pZ (pZ (pZ hsz)))))))))) (by decide)) (run_idx49 W gD n c i1 (by omega))) ?_
  refine n_take (i := 12) (d := some 92) (v := (.pointer (some ⟨gD, i1 * 3 + 1, none⟩))) h12 (wanted_yes rfl h2 rfl (pO (by decide) (pO (by decide) (pO (by decide) (pO (by decide) (pO (by decide) (pO (by decide) (pO (by decide) (pO (by decide) (pO (by decide) (pS (pZ (pZ hsz)) (by decide)))))))))))) rfl (fun W hW => x_field rfl (pS (pZ (pZ (pZ (pZ (pZ (pZ (pZ (pZ (pZ (pZ (pZ hsz))))))))))) (by decide)) (field55c W gD _)) ?_
  refine n_take (i := 13) (d := some 93) (v := (.int .i64 yb)) h13 (wanted_yes rfl h2 rfl (pO (by decide) (pO (by decide) (pO (by decide) (pO (by decide) (pO (by decide) (pO (by decide) (pO (by decide) (pO (by decide) (pO (by decide) (pO (by decide) (pS (pZ (pZ hsz)) (by decide))))))))))))) rfl (fun W hW => exec_load rfl (pS (pZ (pZ (pZ (pZ (pZ (pZ (pZ (pZ (pZ (pZ (pZ (pZ hsz)))))))))))) (by decide)) (load3 (kc hy1 W hW))) ?_
  refine n_take (i := 14) (d := some 94) (v := (.bool false)) h14 (wanted_yes rfl h2 rfl (pO (by decide) (pO (by decide) (pO (by decide) (pO (by decide) (pO (by decide) (pO (by decide) (pO (by decide) (pO (by decide) (pO (by decide) (pO (by decide) (pO (by decide) (pS (pZ (pZ hsz)) (by decide)))))))))))))) rfl (fun W hW => x_bin rfl (pO (by decide) (pO (by decide) (pO (by decide) (pO (by decide) (pO (by decide) (pO (by decide) (pS (pZ (pZ (pZ (pZ (pZ (pZ (pZ hsz))))))) (by decide)))))))) (pS (pZ (pZ (pZ (pZ (pZ (pZ (pZ (pZ (pZ (pZ (pZ (pZ (pZ hsz))))))))))))) (by decide)) (leq_intF W _ _ (by omega))) ?_
  refine n_take (i := 15) (d := some 95) (v := (.bool false)) h15 (wanted_none rfl) rfl (fun W hW => x_pickT rfl (pO (by decide) (pO (by decide) (pO (by decide) (pO (by decide) (pO (by decide) (pO (by decide) (pO (by decide) (pO (by decide) (pO (by decide) (pO (by decide) (pO (by decide) (pO (by decide) (pS (pZ (pZ hsz)) (by decide)))))))))))))) (pS (pZ (pZ (pZ (pZ (pZ (pZ (pZ (pZ (pZ (pZ (pZ (pZ (pZ (pZ hsz)))))))))))))) (by decide))) ?_
  refine n_done ?_
  exact K _ _ _ _ _ _ _ _ _ _ _ _ _ _ _ _ (Lib.hid hB0)
end Go.Proofs.Ytagkdkkpgcolkaa
namespace Go.Proofs.Ytagkdkkpgcolkaa
open Go.RowKit
set_option linter.unusedVariables false
set_option linter.unusedSimpArgs false
theorem du_addr {w : World} {A : Option Addr} {ds : List Du} (h : Hid (RdDu w A ds)) {i : Nat} (hi : i < ds.length) : ∃ gD, A = some ⟨gD, 0, none⟩ := by
  obtain ⟨gD, e, _⟩ := h.out (by omega)
  exact ⟨gD, e⟩
theorem du_cells {w W : World} {gD : Nat} {ds : List Du} (h : Hid (RdDu w (some ⟨gD, 0, none⟩) ds)) (hb : Below w.heap.size w W) {i : Nat} (hi : i < ds.length) :
    ∃ B cb, W.cell? ⟨gD, i * 3, none⟩ = some (.int .i64 (uS ds i)) ∧ W.cell? ⟨gD, i * 3 + 1, none⟩ = some (.int .i64 (uD ds i)) ∧ W.cell? ⟨gD, i * 3 + 2, none⟩ = some (.slice B (uP ds i).length cb) ∧ RdPr W B (uP ds i) := by
  obtain ⟨g, e, hg, hc⟩ := h.out (by omega)
  injection e with e
  injection e with e
  subst e
  obtain ⟨k0, k1, B, cb, k2, hr, _⟩ := hc i hi
  exact ⟨B, cb, (hb.cell (p := ⟨gD, i * 3, none⟩) hg).trans k0, (hb.cell (p := ⟨gD, i * 3 + 1, none⟩) hg).trans k1, (hb.cell (p := ⟨gD, i * 3 + 2, none⟩) hg).trans k2, hr.below hb⟩
theorem made_pr {ps : List Pr} {a : Int} (h : PG ps a) (hl : ps.length ≤ 7) : prV ps = 0 := prV_ok (by omega) h.1
theorem ownPs_rd {W : World} {base N n c : Nat} {A : Option Addr} {ps : List Pr} {ms : List M3} (h : OwnPs W base N (.slice A n c) ps ms) : RdPr W A ps := by
  obtain ⟨A', c', hv, hr, _⟩ := h.form
  injection hv with hA _ _
  rw [hA]
  exact hr
/-- what Assign answers, in one form -/
def AsAny (o : Int) (zl : List (Int × Int)) (l : List T3) (P : List Pr) (early late : Int) (w : World) (e : Ending) (w' : World) : Prop :=
  Below w.heap.size w w' ∧ ∃ A n c, e = .returned (.tuple #[.slice A n c, .int .i64 (asE o zl l P early late)]) ∧ (asE o zl l P early late = 0 → n = (asL o zl l P early late).length ∧ RdDu w' A (asL o zl l P early late)) ∧ (¬ asE o zl l P early late = 0 → A = none ∧ n = 0 ∧ c = 0)
theorem asAny_of {o : Int} {zl : List (Int × Int)} {l : List T3} {P : List Pr} {early late : Int} {w w' : World} {e : Ending} (h : AssignPost o zl l P early late w e w') : AsAny o zl l P early late w e w' := by
  obtain ⟨hb, h | ⟨h0, A, c, n, hn, he, hr, _⟩⟩ := h
  · exact ⟨hb, none, 0, 0, h.2, fun h0 => absurd h0 h.1, fun _ => ⟨rfl, rfl, rfl⟩⟩
  · exact ⟨hb, A, n, c, by rw [h0]; exact he, fun _ => ⟨hn, hr⟩, fun h1 => absurd h0 h1⟩
theorem asOk_of {o : Int} {zl : List (Int × Int)} {l : List T3} {P : List Pr} {early late : Int} {w w' : World} {e : Ending} {ds : List Du} (hE : asE o zl l P early late = 0) (hd : Hid (ds = asL o zl l P early late)) (h : AssignPost o zl l P early late w e w') : AsOk ds w e w' := by
  rw [hd.out]
  obtain ⟨hb, h | ⟨_, A, c, n, hn, he, hr, hc⟩⟩ := h
  · exact absurd hE h.1
  · exact ⟨hb, A, c, n, hn, he, hr, hc⟩
end Go.Proofs.Ytagkdkkpgcolkaa
