/-
  Chapter 10: the drawn regions of the law ShiftPlans. The memory is that of the given program; no conditions.
-/
import Derived.Test.YtagkdkkpgcolkaaSh15s
import Derived.Test.YtagkdkkpgcolkaaRegS
namespace Go.Proofs.Ytagkdkkpgcolkaa
open Go.RowKit
set_option linter.unusedVariables false
set_option linter.unusedSimpArgs false
theorem cfx14 (args : Array Value) (w : World) : (callFunc 14 args).run Try.prog w = .ok (.enter 14 args) w := by kernel_rfl
theorem cfx15 (args : Array Value) (w : World) : (callFunc 15 args).run Try.prog w = .ok (.enter 15 args) w := by kernel_rfl
theorem cfx16 (args : Array Value) (w : World) : (callFunc 16 args).run Try.prog w = .ok (.enter 16 args) w := by kernel_rfl
theorem cfx17 (args : Array Value) (w : World) : (callFunc 17 args).run Try.prog w = .ok (.enter 17 args) w := by kernel_rfl
theorem cfx18 (args : Array Value) (w : World) : (callFunc 18 args).run Try.prog w = .ok (.enter 18 args) w := by kernel_rfl
theorem und34 : Try.prog.underlying 34 = some (.int .i64) := by kernel_rfl
theorem neq_errF (w : World) (m n : Int) (h : m = n) : (binOp .neq 34 (.int .i64 m) (.int .i64 n)).run Try.prog w = .ok (.bool false) w := by
  subst h
  simp [binOp, go_sem, und34]
set_option maxHeartbeats 1600000 in
theorem plans10 {ops : Array Oper} {Q : Exit → Act → World → Prop} {a : Act} {w : World} (id : Nat) {y0 y1 y2 y3 y4 y5 y6 y7 y8 y9 y10 y11 y12 y13 y14 y15 : TypeId} {q0 q1 q2 q3 q4 q5 q6 q7 q8 q9 q10 q11 q12 q13 q14 q15 : String} {f0 f1 f2 f3 f4 f5 f6 f7 f8 f9 f10 f11 f12 f13 f14 f15 : Array Edge} (hok : regT ops (.cons 1 true (.cons 4 true (.cons 0 true (.cons 3 true (.cons 2 false (.cons 5 false (.cons 6 true (.cons 7 true (.cons 8 true (.cons 9 true (.cons 11 true (.cons 12 true (.cons 10 false (.cons 13 false (.cons 14 true (.cons 15 true .nil)))))))))))))))) = true)
    (h0 : ops[0]? = some ⟨(some 56), .load 25 (.tmp 11), y0, q0, f0, none⟩) (h1 : ops[1]? = some ⟨(some 57), .move (.tmp 12), y1, q1, f1, none⟩) (h2 : ops[2]? = some ⟨(some 58), .call { callee := .value (.func 14), args := #[.tmp 56, .tmp 57], argTypes := #[25, 26] }, y2, q2, f2, none⟩) (h3 : ops[3]? = some ⟨(some 59), .load 25 (.tmp 11), y3, q3, f3, none⟩) (h4 : ops[4]? = some ⟨(some 60), .move (.tmp 12), y4, q4, f4, none⟩) (h5 : ops[5]? = some ⟨(some 61), .call { callee := .value (.func 15), args := #[.tmp 59, .tmp 60], argTypes := #[25, 26] }, y5, q5, f5, none⟩) (h6 : ops[6]? = some ⟨(some 62), .binOp .neq 34 (.tmp 58) (.tmp 61) 34, y6, q6, f6, none⟩) (h7 : ops[7]? = some ⟨(some 63), .move (.tmp 62), y7, q7, f7, none⟩) (h8 : ops[8]? = some ⟨(some 64), .move (.tmp 12), y8, q8, f8, (some (7, false))⟩) (h9 : ops[9]? = some ⟨(some 65), .move (.tmp 13), y9, q9, f9, (some (7, false))⟩) (h10 : ops[10]? = some ⟨(some 66), .call { callee := .value (.func 16), args := #[.tmp 64, .tmp 65], argTypes := #[26, 3] }, y10, q10, f10, (some (7, false))⟩) (h11 : ops[11]? = some ⟨(some 67), .move (.tmp 12), y11, q11, f11, (some (7, false))⟩) (h12 : ops[12]? = some ⟨(some 68), .move (.tmp 13), y12, q12, f12, (some (7, false))⟩) (h13 : ops[13]? = some ⟨(some 69), .call { callee := .value (.func 17), args := #[.tmp 67, .tmp 68], argTypes := #[26, 3] }, y13, q13, f13, (some (7, false))⟩) (h14 : ops[14]? = some ⟨(some 70), .binOp .neq 3 (.tmp 66) (.tmp 69) 3, y14, q14, f14, (some (7, false))⟩) (h15 : ops[15]? = some ⟨(some 71), .pick (.tmp 63) (.const (.bool true)) (.tmp 70), y15, q15, f15, none⟩)
    (hsz : 105 ≤ a.tmps.size) (hQ : ∀ c a (d : Nat) v w, Q (.panic c) (a.put (some d) v) w → Q (.panic c) a w) {gx zn zc yn yc : Nat} {o dv ve pv : Int} {zA yA : Option Addr} (e11 : a.eval (.tmp 11) = .pointer (some ⟨gx, 0, none⟩)) (e12 : a.eval (.tmp 12) = (.slice yA yn yc)) (e13 : a.eval (.tmp 13) = (.int .i64 dv)) (hz0 : w.cell? ⟨gx, 0, none⟩ = some (.int .i64 o)) (hz1 : w.cell? ⟨gx, 1, none⟩ = some (.slice zA zn zc))
    (cV : ∀ W, Bel w W → Calls Try.prog 14 #[(.agg #[.int .i64 o, .slice zA zn zc]), (.slice yA yn yc)] W (RetI ve W)) (cRV : ∀ W, Bel w W → Calls Try.prog 15 #[(.agg #[.int .i64 o, .slice zA zn zc]), (.slice yA yn yc)] W (RetI ve W)) (cP : ∀ W, Bel w W → Calls Try.prog 16 #[(.slice yA yn yc), (.int .i64 dv)] W (RetI pv W)) (cRP : ∀ W, Bel w W → Calls Try.prog 17 #[(.slice yA yn yc), (.int .i64 dv)] W (RetI pv W))
    (K : ∀ z0 z1 z2 z3 z4 z5 z6 z7 z8 z9 z10 z11 z12 z13 z14 w', Hid (Bel w w') → Q .normal ((((((((((((((((a.put (some 57) z0).put (some 60) z1).put (some 56) z2).put (some 59) z3).put (some 58) z4).put (some 61) z5).put (some 62) z6).put (some 63) z7).put (some 64) z8).put (some 65) z9).put (some 67) z10).put (some 68) z11).put (some 66) z12).put (some 69) z13).put (some 70) z14).put (some 71) (.bool false)) w') : (Code.region id ops true).wp Try.prog Q a w := by
  have kc : ∀ {p : Addr} {v : Value}, w.cell? p = some v → ∀ W, Bel w.drew W → W.cell? p = some v := fun {p} {v} h W hW => (hW.cell (p := p) (World.block_lt_of_cell? w.drew _ h)).trans h
  have hB0 := Bel.drew w
  have cz : ∀ W, Bel w.drew W → (loadVar 25 ⟨gx, 0, none⟩).run Try.prog W = .ok (.agg #[.int .i64 o, .slice zA zn zc]) W := fun W hW => load25 (kc hz0 W hW) (kc hz1 W hW)
  refine wp_region_WN (by kernel_rfl) hok hQ ?_
  refine n_take (i := 1) (d := some 57) (v := (.slice yA yn yc)) h1 (wanted_none rfl) rfl (fun W hW => x_move rfl e12) ?_
  refine n_take (i := 4) (d := some 60) (v := (.slice yA yn yc)) h4 (wanted_none rfl) rfl (fun W hW => x_move rfl (pO (by decide) e12)) ?_
  refine n_take (i := 0) (d := some 56) (v := (.agg #[.int .i64 o, .slice zA zn zc])) h0 (wanted_none rfl) rfl (fun W hW => exec_load rfl (pO (by decide) (pO (by decide) e11)) (cz W hW)) ?_
  refine n_take (i := 3) (d := some 59) (v := (.agg #[.int .i64 o, .slice zA zn zc])) h3 (wanted_none rfl) rfl (fun W hW => exec_load rfl (pO (by decide) (pO (by decide) (pO (by decide) e11))) (cz W hW)) ?_
  refine n_call (i := 2) (d := some 58) h2 (wanted_none rfl) rfl (x_call2 rfl (pO (by decide) (pS (pZ (pZ hsz)) (by decide))) (pO (by decide) (pO (by decide) (pO (by decide) (pS hsz (by decide))))) (cfx14 _ _)) (Calls.mono (cV _ hB0) ?_)
  rintro e w1 ⟨rfl, hb1⟩
  refine ⟨_, rfl, hb1, ?_⟩
  have hC1 : Bel w.drew w1 := hb1
  have hB1 := Bel.trans hB0 hC1
  refine n_call (i := 5) (d := some 61) h5 (wanted_none rfl) rfl (x_call2 rfl (pO (by decide) (pS (pZ (pZ (pZ hsz))) (by decide))) (pO (by decide) (pO (by decide) (pO (by decide) (pS (pZ hsz) (by decide))))) (cfx15 _ _)) (Calls.mono (cRV _ hB1) ?_)
  rintro e w2 ⟨rfl, hb2⟩
  refine ⟨_, rfl, Bel.trans hC1 hb2, ?_⟩
  have hC2 : Bel w.drew w2 := Bel.trans hC1 hb2
  have hB2 := Bel.trans hB0 hC2
  refine n_take (i := 6) (d := some 62) (v := (.bool false)) h6 (wanted_none rfl) rfl (fun W hW => x_bin rfl (pO (by decide) (pS (pZ (pZ (pZ (pZ hsz)))) (by decide))) (pS (pZ (pZ (pZ (pZ (pZ hsz))))) (by decide)) (neq_errF W _ _ rfl)) ?_
  refine n_take (i := 7) (d := some 63) (v := (.bool false)) h7 (wanted_none rfl) rfl (fun W hW => x_move rfl (pS (pZ (pZ (pZ (pZ (pZ (pZ hsz)))))) (by decide))) ?_
  refine n_take (i := 8) (d := some 64) (v := (.slice yA yn yc)) h8 (wanted_yes rfl h7 rfl (pS (pZ (pZ (pZ (pZ (pZ (pZ (pZ hsz))))))) (by decide))) rfl (fun W hW => x_move rfl (pO (by decide) (pO (by decide) (pO (by decide) (pO (by decide) (pO (by decide) (pO (by decide) (pO (by decide) (pO (by decide) e12))))))))) ?_
  refine n_take (i := 9) (d := some 65) (v := (.int .i64 dv)) h9 (wanted_yes rfl h7 rfl (pO (by decide) (pS (pZ (pZ (pZ (pZ (pZ (pZ (pZ hsz))))))) (by decide)))) rfl (fun W hW => x_move rfl (pO (by decide) (pO (by decide) (pO (by decide) (pO (by decide) (pO (by decide) (pO (by decide) (pO (by decide) (pO (by decide) (pO (by decide) e13)))))))))) ?_
  refine n_take (i := 11) (d := some 67) (v := (.slice yA yn yc)) h11 (wanted_yes rfl h7 rfl (pO (by decide) (pO (by decide) (pS (pZ (pZ (pZ (pZ (pZ (pZ (pZ hsz))))))) (by decide))))) rfl (fun W hW => x_move rfl (pO (by decide) (pO (by decide) (pO (by decide) (pO (by decide) (pO (by decide) (pO (by decide) (pO (by decide) (pO (by decide) (pO (by decide) (pO (by decide) e12))))))))))) ?_
  refine n_take (i := 12) (d := some 68) (v := (.int .i64 dv)) h12 (wanted_yes rfl h7 rfl (pO (by decide) (pO (by decide) (pO (by decide) (pS (pZ (pZ (pZ (pZ (pZ (pZ (pZ hsz))))))) (by decide)))))) rfl (fun W hW => x_move rfl (pO (by decide) (pO (by decide) (pO (by decide) (pO (by decide) (pO (by decide) (pO (by decide) (pO (by decide) (pO (by decide) (pO (by decide) (pO (by decide) (pO (by decide) e13)))))))))))) ?_
  refine n_call (i := 10) (d := some 66) h10 (wanted_yes rfl h7 rfl (pO (by decide) (pO (by decide) (pO (by decide) (pO (by decide) (pS (pZ (pZ (pZ (pZ (pZ (pZ (pZ hsz))))))) (by decide))))))) rfl (x_call2 rfl (pO (by decide) (pO (by decide) (pO (by decide) (pS (pZ (pZ (pZ (pZ (pZ (pZ (pZ (pZ hsz)))))))) (by decide))))) (pO (by decide) (pO (by decide) (pS (pZ (pZ (pZ (pZ (pZ (pZ (pZ (pZ (pZ hsz))))))))) (by decide)))) (cfx16 _ _)) (Calls.mono (cP _ hB2) ?_)
  rintro e w3 ⟨rfl, hb3⟩
  refine ⟨_, rfl, Bel.trans hC2 hb3, ?_⟩
  have hC3 : Bel w.drew w3 := Bel.trans hC2 hb3
  have hB3 := Bel.trans hB0 hC3
  refine n_call (i := 13) (d := some 69) h13 (wanted_yes rfl h7 rfl (pO (by decide) (pO (by decide) (pO (by decide) (pO (by decide) (pO (by decide) (pS (pZ (pZ (pZ (pZ (pZ (pZ (pZ hsz))))))) (by decide)))))))) rfl (x_call2 rfl (pO (by decide) (pO (by decide) (pS (pZ (pZ (pZ (pZ (pZ (pZ (pZ (pZ (pZ (pZ hsz)))))))))) (by decide)))) (pO (by decide) (pS (pZ (pZ (pZ (pZ (pZ (pZ (pZ (pZ (pZ (pZ (pZ hsz))))))))))) (by decide))) (cfx17 _ _)) (Calls.mono (cRP _ hB3) ?_)
  rintro e w4 ⟨rfl, hb4⟩
  refine ⟨_, rfl, Bel.trans hC3 hb4, ?_⟩
  have hC4 : Bel w.drew w4 := Bel.trans hC3 hb4
  have hB4 := Bel.trans hB0 hC4
  refine n_take (i := 14) (d := some 70) (v := (.bool false)) h14 (wanted_yes rfl h7 rfl (pO (by decide) (pO (by decide) (pO (by decide) (pO (by decide) (pO (by decide) (pO (by decide) (pS (pZ (pZ (pZ (pZ (pZ (pZ (pZ hsz))))))) (by decide))))))))) rfl (fun W hW => x_bin rfl (pO (by decide) (pS (pZ (pZ (pZ (pZ (pZ (pZ (pZ (pZ (pZ (pZ (pZ (pZ hsz)))))))))))) (by decide))) (pS (pZ (pZ (pZ (pZ (pZ (pZ (pZ (pZ (pZ (pZ (pZ (pZ (pZ hsz))))))))))))) (by decide)) (neq_intF W _ _ rfl)) ?_
  refine n_take (i := 15) (d := some 71) (v := (.bool false)) h15 (wanted_none rfl) rfl (fun W hW => x_pickF rfl (pO (by decide) (pO (by decide) (pO (by decide) (pO (by decide) (pO (by decide) (pO (by decide) (pO (by decide) (pS (pZ (pZ (pZ (pZ (pZ (pZ (pZ hsz))))))) (by decide))))))))) (pS (pZ (pZ (pZ (pZ (pZ (pZ (pZ (pZ (pZ (pZ (pZ (pZ (pZ (pZ hsz)))))))))))))) (by decide))) ?_
  refine n_done ?_
  exact K _ _ _ _ _ _ _ _ _ _ _ _ _ _ _ _ (Lib.hid hB4)
set_option maxHeartbeats 1600000 in
theorem plans15 {ops : Array Oper} {Q : Exit → Act → World → Prop} {a : Act} {w : World} (id : Nat) {y0 y1 y2 y3 y4 y5 y6 y7 y8 y9 y10 y11 : TypeId} {q0 q1 q2 q3 q4 q5 q6 q7 q8 q9 q10 q11 : String} {f0 f1 f2 f3 f4 f5 f6 f7 f8 f9 f10 f11 : Array Edge} (hok : regT ops (.cons 1 true (.cons 2 true (.cons 0 true (.cons 3 true (.cons 4 true (.fork 5 9 (.cons 6 true (.cons 7 true (.cons 8 true (.cons 9 false (.cons 10 false (.cons 11 true .nil)))))) (.cons 5 false (.cons 6 true (.cons 7 true (.cons 8 true (.cons 10 false (.cons 11 true .nil)))))))))))) = true)
    (h0 : ops[0]? = some ⟨(some 79), .load 25 (.tmp 11), y0, q0, f0, none⟩) (h1 : ops[1]? = some ⟨(some 80), .move (.tmp 12), y1, q1, f1, none⟩) (h2 : ops[2]? = some ⟨(some 81), .move (.tmp 14), y2, q2, f2, none⟩) (h3 : ops[3]? = some ⟨(some 82), .indexAddr 26 (.tmp 80) (.tmp 81), y3, q3, f3, none⟩) (h4 : ops[4]? = some ⟨(some 83), .load 42 (.tmp 82), y4, q4, f4, none⟩) (h5 : ops[5]? = some ⟨(some 84), .call { callee := .value (.func 18), args := #[.tmp 79, .tmp 83], argTypes := #[25, 42] }, y5, q5, f5, none⟩) (h6 : ops[6]? = some ⟨(some 78), .move (.tmp 84), y6, q6, f6, none⟩) (h7 : ops[7]? = some ⟨(some 85), .extract (.tmp 78) 0, y7, q7, f7, none⟩) (h8 : ops[8]? = some ⟨(some 86), .extract (.tmp 78) 1, y8, q8, f8, none⟩) (h9 : ops[9]? = some ⟨(some 15), .alloc 38, y9, q9, f9, none⟩) (h10 : ops[10]? = some ⟨none, .store 38 (.tmp 15) (.tmp 85), y10, q10, f10, none⟩) (h11 : ops[11]? = some ⟨(some 16), .assign (.tmp 86), y11, q11, f11, none⟩)
    (hsz : 105 ≤ a.tmps.size) (hQ : ∀ c a (d : Nat) v w, Q (.panic c) (a.put (some d) v) w → Q (.panic c) a w) {gz g off n c k : Nat} {o d st mi x y e_ : Int} {zA : Option Addr} {zn zc : Nat} (e2 : a.eval (.tmp 11) = .pointer (some ⟨gz, 0, none⟩)) (e1 : a.eval (.tmp 12) = .slice (some ⟨g, off, none⟩) n c) (e7 : a.eval (.tmp 14) = .int .i64 k)
    (hk : k < n) (hz0 : w.cell? ⟨gz, 0, none⟩ = some (.int .i64 o)) (hz1 : w.cell? ⟨gz, 1, none⟩ = some (.slice zA zn zc)) (hs0 : w.cell? ⟨g, off + k * 3, none⟩ = some (.int .i64 d)) (hs1 : w.cell? ⟨g, off + k * 3 + 1, none⟩ = some (.int .i64 st)) (hs2 : w.cell? ⟨g, off + k * 3 + 2, none⟩ = some (.int .i64 mi))
    (cSp : ∀ W, Bel w W → Calls Try.prog 18 #[(.agg #[.int .i64 o, .slice zA zn zc]), (.agg #[.int .i64 d, .int .i64 st, .int .i64 mi])] W (fun r w' => r = .returned (.tuple #[.agg #[.int .i64 x, .int .i64 y], .int .i64 e_]) ∧ Below W.heap.size W w'))
    (K : ∀ z0 z1 z2 z3 z4 z5 z6 z7 z8 g8 w', Hid (Blk w' g8 38 #[.int .i64 x, .int .i64 y]) → Hid (Bel w w') → Hid (w.heap.size ≤ g8) → Q .normal (((((((((((a.put (some 80) z0).put (some 81) z1).put (some 79) z2).put (some 82) z3).put (some 83) z4).put (some 84) z5).put (some 78) z6).put (some 85) z7).put (some 86) z8).put (some 15) (.pointer (some ⟨g8, 0, none⟩))).put (some 16) (.int .i64 e_)) w') : (Code.region id ops true).wp Try.prog Q a w := by
  have kc : ∀ {p : Addr} {v : Value}, w.cell? p = some v → ∀ W, Bel w.drew W → W.cell? p = some v := fun {p} {v} h W hW => (hW.cell (p := p) (World.block_lt_of_cell? w.drew _ h)).trans h
  have cz : ∀ W, Bel w.drew W → (loadVar 25 ⟨gz, 0, none⟩).run Try.prog W = .ok (.agg #[.int .i64 o, .slice zA zn zc]) W := fun W hW => load25 (kc hz0 W hW) (kc hz1 W hW)
  have cs : ∀ W, Bel w.drew W → (loadVar 42 ⟨g, off + k * 3, none⟩).run Try.prog W = .ok (.agg #[.int .i64 d, .int .i64 st, .int .i64 mi]) W := fun W hW => load42 (kc hs0 W hW) (kc hs1 W hW) (kc hs2 W hW)
  have hB0 := Bel.drew w
  refine wp_region_WN (by kernel_rfl) hok hQ ?_
  refine n_take (i := 1) (d := some 80) (v := (.slice (some ⟨g, off, none⟩) n c)) h1 (wanted_none rfl) rfl (fun W hW => x_move rfl e1) ?_
  refine n_take (i := 2) (d := some 81) (v := (.int .i64 k)) h2 (wanted_none rfl) rfl (fun W hW => x_move rfl (pO (by decide) e7)) ?_
  refine n_take (i := 0) (d := some 79) (v := (.agg #[.int .i64 o, .slice zA zn zc])) h0 (wanted_none rfl) rfl (fun W hW => exec_load rfl (pO (by decide) (pO (by decide) e2)) (cz W hW)) ?_
  refine n_take (i := 3) (d := some 82) (v := (.pointer (some ⟨g, off + k * 3, none⟩))) h3 (wanted_none rfl) rfl (fun W hW => x_index rfl (pO (by decide) (pO (by decide) (pS hsz (by decide)))) (pO (by decide) (pS (pZ hsz) (by decide))) (run_idx26 W g off n c k hk)) ?_
  refine n_take (i := 4) (d := some 83) (v := (.agg #[.int .i64 d, .int .i64 st, .int .i64 mi])) h4 (wanted_none rfl) rfl (fun W hW => exec_load rfl (pS (pZ (pZ (pZ hsz))) (by decide)) (cs W hW)) ?_
  refine n_fork (i := 5) (j := 9) (d := some 84) (d' := some 15) (v' := (.pointer (some ⟨w.drew.heap.size, 0, none⟩))) (w' := w.drew.alloc (.cells #[.int .i64 0, .int .i64 0] 38)) h5 (wanted_none rfl) rfl (x_call2 rfl (pO (by decide) (pO (by decide) (pS (pZ (pZ hsz)) (by decide)))) (pS (pZ (pZ (pZ (pZ hsz)))) (by decide)) (cfx18 _ _)) h9 (wanted_none rfl) rfl (x_alloc38 rfl) ((Below.refl _ _).alloc (Nat.le_refl _) _) (Calls.mono (cSp _ hB0) ?_) ?_
  · rintro e w1 ⟨rfl, hb1⟩
    refine ⟨_, rfl, hb1, ?_⟩
    have hB1 := Bel.trans hB0 hb1
    refine n_take (i := 6) (d := some 78) (v := (.tuple #[(.agg #[.int .i64 x, .int .i64 y]), (.int .i64 e_)])) h6 (wanted_none rfl) rfl (fun W hW => x_move rfl (pS (pZ (pZ (pZ (pZ (pZ hsz))))) (by decide))) ?_
    refine n_take (i := 7) (d := some 85) (v := (.agg #[.int .i64 x, .int .i64 y])) h7 (wanted_none rfl) rfl (fun W hW => x_extract rfl (pS (pZ (pZ (pZ (pZ (pZ (pZ hsz)))))) (by decide)) rfl) ?_
    refine n_take (i := 8) (d := some 86) (v := (.int .i64 e_)) h8 (wanted_none rfl) rfl (fun W hW => x_extract rfl (pO (by decide) (pS (pZ (pZ (pZ (pZ (pZ (pZ hsz)))))) (by decide))) rfl) ?_
    refine n_val (i := 9) (d := some 15) (v := (.pointer (some ⟨w1.heap.size, 0, none⟩))) (w' := w1.alloc (.cells #[.int .i64 0, .int .i64 0] 38)) h9 (wanted_none rfl) rfl (x_alloc38 rfl) (Bel.alloc_ hb1 _) ?_
    refine n_unit (i := 10) (w' := ((w1.alloc (.cells #[.int .i64 0, .int .i64 0] 38)).setCell ⟨w1.heap.size, 0, none⟩ (.int .i64 x)).setCell ⟨w1.heap.size, 1, none⟩ (.int .i64 y)) h10 (wanted_none rfl) rfl (exec_store rfl (pS (pZ (pZ (pZ (pZ (pZ (pZ (pZ (pZ (pZ hsz))))))))) (by decide)) (pO (by decide) (pO (by decide) (pS (pZ (pZ (pZ (pZ (pZ (pZ (pZ hsz))))))) (by decide)))) (store38 (Blk.new _ _ _))) (Bel.put2 hb1 _ _ _) ?_
    refine n_take (i := 11) (d := some 16) (v := (.int .i64 e_)) h11 (wanted_none rfl) rfl (fun W hW => x_assign rfl (pO (by decide) (pS (pZ (pZ (pZ (pZ (pZ (pZ (pZ (pZ hsz)))))))) (by decide)))) ?_
    refine n_done ?_
    exact K _ _ _ _ _ _ _ _ _ w1.heap.size _ (Lib.hid (blk38 _ _ _)) (Lib.hid (Bel.trans (Bel.drew w) (Bel.put2 hb1 _ _ _))) (Lib.hid (Below.size hB1))
  · have hb0 : Bel w.drew (w.drew.alloc (.cells #[.int .i64 0, .int .i64 0] 38)) := (Below.refl _ _).alloc (Nat.le_refl _) _
    refine n_call (i := 5) (d := some 84) h5 (wanted_none rfl) rfl (x_call2 rfl (pO (by decide) (pO (by decide) (pO (by decide) (pS (pZ (pZ hsz)) (by decide))))) (pO (by decide) (pS (pZ (pZ (pZ (pZ hsz)))) (by decide))) (cfx18 _ _)) (Calls.mono (cSp _ (Bel.trans hB0 hb0)) ?_)
    rintro e w1 ⟨rfl, hb1⟩
    refine ⟨_, rfl, Bel.trans hb0 hb1, ?_⟩
    have hb : Blk w1 w.drew.heap.size 38 #[.int .i64 0, .int .i64 0] := (Blk.new w.drew 38 #[.int .i64 0, .int .i64 0]).below hb1 (by simp)
    refine n_take (i := 6) (d := some 78) (v := (.tuple #[(.agg #[.int .i64 x, .int .i64 y]), (.int .i64 e_)])) h6 (wanted_none rfl) rfl (fun W hW => x_move rfl (pS (pZ (pZ (pZ (pZ (pZ (pZ hsz)))))) (by decide))) ?_
    refine n_take (i := 7) (d := some 85) (v := (.agg #[.int .i64 x, .int .i64 y])) h7 (wanted_none rfl) rfl (fun W hW => x_extract rfl (pS (pZ (pZ (pZ (pZ (pZ (pZ (pZ hsz))))))) (by decide)) rfl) ?_
    refine n_take (i := 8) (d := some 86) (v := (.int .i64 e_)) h8 (wanted_none rfl) rfl (fun W hW => x_extract rfl (pO (by decide) (pS (pZ (pZ (pZ (pZ (pZ (pZ (pZ hsz))))))) (by decide))) rfl) ?_
    refine n_unit (i := 10) (w' := (w1.setCell ⟨w.drew.heap.size, 0, none⟩ (.int .i64 x)).setCell ⟨w.drew.heap.size, 1, none⟩ (.int .i64 y)) h10 (wanted_none rfl) rfl (exec_store rfl (pO (by decide) (pO (by decide) (pO (by decide) (pO (by decide) (pS (pZ (pZ (pZ (pZ (pZ hsz))))) (by decide)))))) (pO (by decide) (pS (pZ (pZ (pZ (pZ (pZ (pZ (pZ (pZ hsz)))))))) (by decide))) (store38 hb)) (Bel.set2 (Bel.trans hb0 hb1) (Nat.le_refl _) _ _) ?_
    refine n_take (i := 11) (d := some 16) (v := (.int .i64 e_)) h11 (wanted_none rfl) rfl (fun W hW => x_assign rfl (pS (pZ (pZ (pZ (pZ (pZ (pZ (pZ (pZ (pZ hsz))))))))) (by decide))) ?_
    refine n_done ?_
    rw [put_comm _ 15 84 _ _ (by decide), put_comm _ 15 78 _ _ (by decide), put_comm _ 15 85 _ _ (by decide), put_comm _ 15 86 _ _ (by decide)]
    exact K _ _ _ _ _ _ _ _ _ w.drew.heap.size _ (Lib.hid (blk38s hb _ _)) (Lib.hid (Bel.trans (Bel.drew w) (Bel.set2 (Bel.trans hb0 hb1) (Nat.le_refl _) _ _))) (Lib.hid (Nat.le_refl _))
set_option maxHeartbeats 1600000 in
theorem plans16 {ops : Array Oper} {Q : Exit → Act → World → Prop} {a : Act} {w : World} (id : Nat) {y0 y1 y2 y3 y4 y5 y6 y7 y8 y9 y10 y11 : TypeId} {q0 q1 q2 q3 q4 q5 q6 q7 q8 q9 q10 q11 : String} {f0 f1 f2 f3 f4 f5 f6 f7 f8 f9 f10 f11 : Array Edge} (hok : regT ops (.cons 1 true (.cons 2 true (.cons 0 true (.cons 3 true (.cons 4 true (.fork 5 9 (.cons 6 true (.cons 7 true (.cons 8 true (.cons 9 false (.cons 10 false (.cons 11 true .nil)))))) (.cons 5 false (.cons 6 true (.cons 7 true (.cons 8 true (.cons 10 false (.cons 11 true .nil)))))))))))) = true)
    (h0 : ops[0]? = some ⟨(some 88), .load 25 (.tmp 11), y0, q0, f0, none⟩) (h1 : ops[1]? = some ⟨(some 89), .move (.tmp 12), y1, q1, f1, none⟩) (h2 : ops[2]? = some ⟨(some 90), .move (.tmp 14), y2, q2, f2, none⟩) (h3 : ops[3]? = some ⟨(some 91), .indexAddr 26 (.tmp 89) (.tmp 90), y3, q3, f3, none⟩) (h4 : ops[4]? = some ⟨(some 92), .load 42 (.tmp 91), y4, q4, f4, none⟩) (h5 : ops[5]? = some ⟨(some 93), .call { callee := .value (.func 19), args := #[.tmp 88, .tmp 92], argTypes := #[25, 42] }, y5, q5, f5, none⟩) (h6 : ops[6]? = some ⟨(some 87), .move (.tmp 93), y6, q6, f6, none⟩) (h7 : ops[7]? = some ⟨(some 94), .extract (.tmp 87) 0, y7, q7, f7, none⟩) (h8 : ops[8]? = some ⟨(some 95), .extract (.tmp 87) 1, y8, q8, f8, none⟩) (h9 : ops[9]? = some ⟨(some 17), .alloc 38, y9, q9, f9, none⟩) (h10 : ops[10]? = some ⟨none, .store 38 (.tmp 17) (.tmp 94), y10, q10, f10, none⟩) (h11 : ops[11]? = some ⟨(some 18), .assign (.tmp 95), y11, q11, f11, none⟩)
    (hsz : 105 ≤ a.tmps.size) (hQ : ∀ c a (d : Nat) v w, Q (.panic c) (a.put (some d) v) w → Q (.panic c) a w) {gz g off n c k : Nat} {o d st mi x y e_ : Int} {zA : Option Addr} {zn zc : Nat} (e2 : a.eval (.tmp 11) = .pointer (some ⟨gz, 0, none⟩)) (e1 : a.eval (.tmp 12) = .slice (some ⟨g, off, none⟩) n c) (e7 : a.eval (.tmp 14) = .int .i64 k)
    (hk : k < n) (hz0 : w.cell? ⟨gz, 0, none⟩ = some (.int .i64 o)) (hz1 : w.cell? ⟨gz, 1, none⟩ = some (.slice zA zn zc)) (hs0 : w.cell? ⟨g, off + k * 3, none⟩ = some (.int .i64 d)) (hs1 : w.cell? ⟨g, off + k * 3 + 1, none⟩ = some (.int .i64 st)) (hs2 : w.cell? ⟨g, off + k * 3 + 2, none⟩ = some (.int .i64 mi))
    (cSp : ∀ W, Bel w W → Calls Try.prog 19 #[(.agg #[.int .i64 o, .slice zA zn zc]), (.agg #[.int .i64 d, .int .i64 st, .int .i64 mi])] W (fun r w' => r = .returned (.tuple #[.agg #[.int .i64 x, .int .i64 y], .int .i64 e_]) ∧ Below W.heap.size W w'))
    (K : ∀ z0 z1 z2 z3 z4 z5 z6 z7 z8 g8 w', Hid (Blk w' g8 38 #[.int .i64 x, .int .i64 y]) → Hid (Bel w w') → Hid (w.heap.size ≤ g8) → Q .normal (((((((((((a.put (some 89) z0).put (some 90) z1).put (some 88) z2).put (some 91) z3).put (some 92) z4).put (some 93) z5).put (some 87) z6).put (some 94) z7).put (some 95) z8).put (some 17) (.pointer (some ⟨g8, 0, none⟩))).put (some 18) (.int .i64 e_)) w') : (Code.region id ops true).wp Try.prog Q a w := by
  have kc : ∀ {p : Addr} {v : Value}, w.cell? p = some v → ∀ W, Bel w.drew W → W.cell? p = some v := fun {p} {v} h W hW => (hW.cell (p := p) (World.block_lt_of_cell? w.drew _ h)).trans h
  have cz : ∀ W, Bel w.drew W → (loadVar 25 ⟨gz, 0, none⟩).run Try.prog W = .ok (.agg #[.int .i64 o, .slice zA zn zc]) W := fun W hW => load25 (kc hz0 W hW) (kc hz1 W hW)
  have cs : ∀ W, Bel w.drew W → (loadVar 42 ⟨g, off + k * 3, none⟩).run Try.prog W = .ok (.agg #[.int .i64 d, .int .i64 st, .int .i64 mi]) W := fun W hW => load42 (kc hs0 W hW) (kc hs1 W hW) (kc hs2 W hW)
  have hB0 := Bel.drew w
  refine wp_region_WN (by kernel_rfl) hok hQ ?_
  refine n_take (i := 1) (d := some 89) (v := (.slice (some ⟨g, off, none⟩) n c)) h1 (wanted_none rfl) rfl (fun W hW => x_move rfl e1) ?_
  refine n_take (i := 2) (d := some 90) (v := (.int .i64 k)) h2 (wanted_none rfl) rfl (fun W hW => x_move rfl (pO (by decide) e7)) ?_
  refine n_take (i := 0) (d := some 88) (v := (.agg #[.int .i64 o, .slice zA zn zc])) h0 (wanted_none rfl) rfl (fun W hW => exec_load rfl (pO (by decide) (pO (by decide) e2)) (cz W hW)) ?_
  refine n_take (i := 3) (d := some 91) (v := (.pointer (some ⟨g, off + k * 3, none⟩))) h3 (wanted_none rfl) rfl (fun W hW => x_index rfl (pO (by decide) (pO (by decide) (pS hsz (by decide)))) (pO (by decide) (pS (pZ hsz) (by decide))) (run_idx26 W g off n c k hk)) ?_
  refine n_take (i := 4) (d := some 92) (v := (.agg #[.int .i64 d, .int .i64 st, .int .i64 mi])) h4 (wanted_none rfl) rfl (fun W hW => exec_load rfl (pS (pZ (pZ (pZ hsz))) (by decide)) (cs W hW)) ?_
  refine n_fork (i := 5) (j := 9) (d := some 93) (d' := some 17) (v' := (.pointer (some ⟨w.drew.heap.size, 0, none⟩))) (w' := w.drew.alloc (.cells #[.int .i64 0, .int .i64 0] 38)) h5 (wanted_none rfl) rfl (x_call2 rfl (pO (by decide) (pO (by decide) (pS (pZ (pZ hsz)) (by decide)))) (pS (pZ (pZ (pZ (pZ hsz)))) (by decide)) (cfx19 _ _)) h9 (wanted_none rfl) rfl (x_alloc38 rfl) ((Below.refl _ _).alloc (Nat.le_refl _) _) (Calls.mono (cSp _ hB0) ?_) ?_
  · rintro e w1 ⟨rfl, hb1⟩
    refine ⟨_, rfl, hb1, ?_⟩
    have hB1 := Bel.trans hB0 hb1
    refine n_take (i := 6) (d := some 87) (v := (.tuple #[(.agg #[.int .i64 x, .int .i64 y]), (.int .i64 e_)])) h6 (wanted_none rfl) rfl (fun W hW => x_move rfl (pS (pZ (pZ (pZ (pZ (pZ hsz))))) (by decide))) ?_
    refine n_take (i := 7) (d := some 94) (v := (.agg #[.int .i64 x, .int .i64 y])) h7 (wanted_none rfl) rfl (fun W hW => x_extract rfl (pS (pZ (pZ (pZ (pZ (pZ (pZ hsz)))))) (by decide)) rfl) ?_
    refine n_take (i := 8) (d := some 95) (v := (.int .i64 e_)) h8 (wanted_none rfl) rfl (fun W hW => x_extract rfl (pO (by decide) (pS (pZ (pZ (pZ (pZ (pZ (pZ hsz)))))) (by decide))) rfl) ?_
    refine n_val (i := 9) (d := some 17) (v := (.pointer (some ⟨w1.heap.size, 0, none⟩))) (w' := w1.alloc (.cells #[.int .i64 0, .int .i64 0] 38)) h9 (wanted_none rfl) rfl (x_alloc38 rfl) (Bel.alloc_ hb1 _) ?_
    refine n_unit (i := 10) (w' := ((w1.alloc (.cells #[.int .i64 0, .int .i64 0] 38)).setCell ⟨w1.heap.size, 0, none⟩ (.int .i64 x)).setCell ⟨w1.heap.size, 1, none⟩ (.int .i64 y)) h10 (wanted_none rfl) rfl (exec_store rfl (pS (pZ (pZ (pZ (pZ (pZ (pZ (pZ (pZ (pZ hsz))))))))) (by decide)) (pO (by decide) (pO (by decide) (pS (pZ (pZ (pZ (pZ (pZ (pZ (pZ hsz))))))) (by decide)))) (store38 (Blk.new _ _ _))) (Bel.put2 hb1 _ _ _) ?_
    refine n_take (i := 11) (d := some 18) (v := (.int .i64 e_)) h11 (wanted_none rfl) rfl (fun W hW => x_assign rfl (pO (by decide) (pS (pZ (pZ (pZ (pZ (pZ (pZ (pZ (pZ hsz)))))))) (by decide)))) ?_
    refine n_done ?_
    exact K _ _ _ _ _ _ _ _ _ w1.heap.size _ (Lib.hid (blk38 _ _ _)) (Lib.hid (Bel.trans (Bel.drew w) (Bel.put2 hb1 _ _ _))) (Lib.hid (Below.size hB1))
  · have hb0 : Bel w.drew (w.drew.alloc (.cells #[.int .i64 0, .int .i64 0] 38)) := (Below.refl _ _).alloc (Nat.le_refl _) _
    refine n_call (i := 5) (d := some 93) h5 (wanted_none rfl) rfl (x_call2 rfl (pO (by decide) (pO (by decide) (pO (by decide) (pS (pZ (pZ hsz)) (by decide))))) (pO (by decide) (pS (pZ (pZ (pZ (pZ hsz)))) (by decide))) (cfx19 _ _)) (Calls.mono (cSp _ (Bel.trans hB0 hb0)) ?_)
    rintro e w1 ⟨rfl, hb1⟩
    refine ⟨_, rfl, Bel.trans hb0 hb1, ?_⟩
    have hb : Blk w1 w.drew.heap.size 38 #[.int .i64 0, .int .i64 0] := (Blk.new w.drew 38 #[.int .i64 0, .int .i64 0]).below hb1 (by simp)
    refine n_take (i := 6) (d := some 87) (v := (.tuple #[(.agg #[.int .i64 x, .int .i64 y]), (.int .i64 e_)])) h6 (wanted_none rfl) rfl (fun W hW => x_move rfl (pS (pZ (pZ (pZ (pZ (pZ (pZ hsz)))))) (by decide))) ?_
    refine n_take (i := 7) (d := some 94) (v := (.agg #[.int .i64 x, .int .i64 y])) h7 (wanted_none rfl) rfl (fun W hW => x_extract rfl (pS (pZ (pZ (pZ (pZ (pZ (pZ (pZ hsz))))))) (by decide)) rfl) ?_
    refine n_take (i := 8) (d := some 95) (v := (.int .i64 e_)) h8 (wanted_none rfl) rfl (fun W hW => x_extract rfl (pO (by decide) (pS (pZ (pZ (pZ (pZ (pZ (pZ (pZ hsz))))))) (by decide))) rfl) ?_
    refine n_unit (i := 10) (w' := (w1.setCell ⟨w.drew.heap.size, 0, none⟩ (.int .i64 x)).setCell ⟨w.drew.heap.size, 1, none⟩ (.int .i64 y)) h10 (wanted_none rfl) rfl (exec_store rfl (pO (by decide) (pO (by decide) (pO (by decide) (pO (by decide) (pS (pZ (pZ (pZ (pZ (pZ hsz))))) (by decide)))))) (pO (by decide) (pS (pZ (pZ (pZ (pZ (pZ (pZ (pZ (pZ hsz)))))))) (by decide))) (store38 hb)) (Bel.set2 (Bel.trans hb0 hb1) (Nat.le_refl _) _ _) ?_
    refine n_take (i := 11) (d := some 18) (v := (.int .i64 e_)) h11 (wanted_none rfl) rfl (fun W hW => x_assign rfl (pS (pZ (pZ (pZ (pZ (pZ (pZ (pZ (pZ (pZ hsz))))))))) (by decide))) ?_
    refine n_done ?_
    rw [put_comm _ 17 93 _ _ (by decide), put_comm _ 17 87 _ _ (by decide), put_comm _ 17 94 _ _ (by decide), put_comm _ 17 95 _ _ (by decide)]
    exact K _ _ _ _ _ _ _ _ _ w.drew.heap.size _ (Lib.hid (blk38s hb _ _)) (Lib.hid (Bel.trans (Bel.drew w) (Bel.set2 (Bel.trans hb0 hb1) (Nat.le_refl _) _ _))) (Lib.hid (Nat.le_refl _))
end Go.Proofs.Ytagkdkkpgcolkaa
