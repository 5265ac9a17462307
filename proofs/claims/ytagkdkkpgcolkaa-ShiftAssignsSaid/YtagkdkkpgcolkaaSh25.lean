/-
  Chapter 10: the walk of the law ShiftPlans. The memory is that of the given program; no conditions.
-/
import Derived.Test.YtagkdkkpgcolkaaSh15s
import Derived.Test.YtagkdkkpgcolkaaRegS
import Derived.Test.YtagkdkkpgcolkaaSh17
import Derived.Test.YtagkdkkpgcolkaaSh21
import Derived.Test.YtagkdkkpgcolkaaSpoil
namespace Go.Proofs.Ytagkdkkpgcolkaa
open Go.RowKit
set_option linter.unusedVariables false
set_option linter.unusedSimpArgs false
theorem cfx14 (args : Array Value) (w : World) : (callFunc 14 args).run Try.prog w = .ok (.enter 14 args) w := by kernel_rfl
theorem cfx15 (args : Array Value) (w : World) : (callFunc 15 args).run Try.prog w = .ok (.enter 15 args) w := by kernel_rfl
theorem cfx16 (args : Array Value) (w : World) : (callFunc 16 args).run Try.prog w = .ok (.enter 16 args) w := by kernel_rfl
theorem cfx17 (args : Array Value) (w : World) : (callFunc 17 args).run Try.prog w = .ok (.enter 17 args) w := by kernel_rfl
theorem cfx18 (args : Array Value) (w : World) : (callFunc 18 args).run Try.prog w = .ok (.enter 18 args) w := by kernel_rfl
theorem und34 : Try.prog.underlying 34 = some (.int .i64) := by kernel_rfl
theorem neq_errF (w : World) (m n : Int) (h : m = n) : (binOp .neq 34 (.int .i64 m) (.int .i64 n)).run Try.prog w = .ok (.bool false) w := by
  subst h
  simp [binOp, go_sem, und34]
set_option maxHeartbeats 1600000 in
theorem plans10 {ops : Array Oper} {Q : Exit → Act → World → Prop} {a : Act} {w : World} (id : Nat) {y0 y1 y2 y3 y4 y5 y6 y7 y8 y9 y10 y11 y12 y13 y14 y15 : TypeId} {q0 q1 q2 q3 q4 q5 q6 q7 q8 q9 q10 q11 q12 q13 q14 q15 : String} {f0 f1 f2 f3 f4 f5 f6 f7 f8 f9 f10 f11 f12 f13 f14 f15 : Array Edge} (hok : regT ops (.cons 1 true (.cons 4 true (.cons 0 true (.cons 3 true (.cons 2 false (.cons 5 false (.cons 6 true (.cons 7 true (.cons 8 true (.cons 9 true (.cons 11 true (.cons 12 true (.cons 10 false (.cons 13 false (.cons 14 true (.cons 15 true .nil)))))))))))))))) = true)
    (h0 : ops[0]? = some ⟨(some 56), .load 25 (.tmp 11), y0, q0, f0, none⟩) (h1 : ops[1]? = some ⟨(some 57), .move (.tmp 12), y1, q1, f1, none⟩) (h2 : ops[2]? = some ⟨(some 58), .call { callee := .value (.func 14), args := #[.tmp 56, .tmp 57], argTypes := #[25, 26] }, y2, q2, f2, none⟩) (h3 : ops[3]? = some ⟨(some 59), .load 25 (.tmp 11), y3, q3, f3, none⟩) (h4 : ops[4]? = some ⟨(some 60), .move (.tmp 12), y4, q4, f4, none⟩) (h5 : ops[5]? = some ⟨(some 61), .call { callee := .value (.func 15), args := #[.tmp 59, .tmp 60], argTypes := #[25, 26] }, y5, q5, f5, none⟩) (h6 : ops[6]? = some ⟨(some 62), .binOp .neq 34 (.tmp 58) (.tmp 61) 34, y6, q6, f6, none⟩) (h7 : ops[7]? = some ⟨(some 63), .move (.tmp 62), y7, q7, f7, none⟩) (h8 : ops[8]? = some ⟨(some 64), .move (.tmp 12), y8, q8, f8, (some (7, false))⟩) (h9 : ops[9]? = some ⟨(some 65), .move (.tmp 13), y9, q9, f9, (some (7, false))⟩) (h10 : ops[10]? = some ⟨(some 66), .call { callee := .value (.func 16), args := #[.tmp 64, .tmp 65], argTypes := #[26, 3] }, y10, q10, f10, (some (7, false))⟩) (h11 : ops[11]? = some ⟨(some 67), .move (.tmp 12), y11, q11, f11, (some (7, false))⟩) (h12 : ops[12]? = some ⟨(some 68), .move (.tmp 13), y12, q12, f12, (some (7, false))⟩) (h13 : ops[13]? = some ⟨(some 69), .call { callee := .value (.func 17), args := #[.tmp 67, .tmp 68], argTypes := #[26, 3] }, y13, q13, f13, (some (7, false))⟩) (h14 : ops[14]? = some ⟨(some 70), .binOp .neq 3 (.tmp 66) (.tmp 69) 3, y14, q14, f14, (some (7, false))⟩) (h15 : ops[15]? = some ⟨(some 71), .pick (.tmp 63) (.const (.bool true)) (.tmp 70), y15, q15, f15, none⟩)
    (hsz : 105 ≤ a.tmps.size) (hQ : ∀ c a (d : Nat) v w, Q (.panic c) (a.put (some d) v) w → Q (.panic c) a w) {gx zn zc yn yc : Nat} {o dv ve pv : Int} {zA yA : Option Addr} (e11 : a.eval (.tmp 11) = .pointer (some ⟨gx, 0, none⟩)) (e12 : a.eval (.tmp 12) = (.slice yA yn yc)) (e13 : a.eval (.tmp 13) = (.int .i64 dv)) (hz0 : w.cell? ⟨gx, 0, none⟩ = some (.int .i64 o)) (hz1 : w.cell? ⟨gx, 1, none⟩ = some (.slice zA zn zc))
    (cV : ∀ W, Bel w W → Calls Try.prog 14 #[(.agg #[.int .i64 o, .slice zA zn zc]), (.slice yA yn yc)] W (RetI ve W)) (cRV : ∀ W, Bel w W → Calls Try.prog 15 #[(.agg #[.int .i64 o, .slice zA zn zc]), (.slice yA yn yc)] W (RetI ve W)) (cP : ∀ W, Bel w W → Calls Try.prog 16 #[(.slice yA yn yc), (.int .i64 dv)] W (RetI pv W)) (cRP : ∀ W, Bel w W → Calls Try.prog 17 #[(.slice yA yn yc), (.int .i64 dv)] W (RetI pv W))
    (K : ∀ z0 z1 z2 z3 z4 z5 z6 z7 z8 z9 z10 z11 z12 z13 z14 w', Hid (Bel w w') → Q .normal ((((((((((((((((a.put (some 57) z0).put (some 60) z1).put (some 56) z2).put (some 59) z3).put (some 58) z4).put (some 61) z5).put (some 62) z6).put (some 63) z7).put (some 64) z8).put (some 65) z9).put (some 67) z10).put (some 68) z11).put (some 66) z12).put (some 69) z13).put (some 70) z14).put (some 71) (.bool false)) w') : (Code.region id ops true).wp Try.prog Q a w := by
  have kc : ∀ {p : Addr} {v : Value}, w.cell? p = some v → ∀ W, Bel w.drew W → W.cell? p = some v := fun {p} {v} h W hW => (hW.cell (p := p) (World.block_lt_of_cell? w.drew _ h)).trans h
  have hB0 := Bel.drew w
  have cz : ∀ W, Bel w.drew W → (loadVar 25 ⟨gx, 0, none⟩).run Try.prog W = .ok (.agg #[.int .i64 o, .slice zA zn zc]) W := fun W hW => load25 (kc hz0 W hW) (kc hz1 W hW)
  refine wp_region_WN (by kernel_rfl) hok hQ ?_
  refine n_take (i := 1) (d := some 57) (v := (.slice yA yn yc)) h1 (wanted_none rfl) rfl (fun W hW => x_move rfl e12) ?_
  refine n_take (i := 4) (d := some 60) (v := (.slice yA yn yc)) h4 (wanted_none rfl) rfl (fun W hW => x_move rfl (pO (by decide) e12)) ?_
  refine n_take (i := 0) (d := some 56) (v := (.agg #[.int .i64 o, .slice zA zn zc])) h0 (wanted_none rfl) rfl (fun W hW => exec_load rfl (pO (by decide) (pO (by decide) e11)) (cz W hW)) ?_
  refine n_take (i := 3) (d := some 59) (v := (.agg #[.int .i64 o, .slice zA zn zc])) h3 (wanted_none rfl) rfl (fun W hW => exec_load rfl (pO (by decide) (pO (by decide) (pO (by decide) e11))) (cz W hW)) ?_
  refine n_call (i := 2) (d := some 58) h2 (wanted_none rfl) rfl (x_call2 rfl (pO (by decide) (pS (pZ (pZ hsz)) (by decide))) (pO (by decide) (pO (by decide) (pO (by decide) (pS hsz (by decide))))) (cfx14 _ _)) (Calls.mono (cV _ hB0) ?_)
  rintro e w1 ⟨rfl, hb1⟩
  refine ⟨_, rfl, hb1, ?_⟩
  have hC1 : Bel w.drew w1 := hb1
  have hB1 := Bel.trans hB0 hC1
  refine n_call (i := 5) (d := some 61) h5 (wanted_none rfl) rfl (x_call2 rfl (pO (by decide) (pS (pZ (pZ (pZ hsz))) (by decide))) (pO (by decide) (pO (by decide) (pO (by decide) (pS (pZ hsz) (by decide))))) (cfx15 _ _)) (Calls.mono (cRV _ hB1) ?_)
  rintro e w2 ⟨rfl, hb2⟩
  refine ⟨_, rfl, Bel.trans hC1 hb2, ?_⟩
  have hC2 : Bel w.drew w2 := Bel.trans hC1 hb2
  have hB2 := Bel.trans hB0 hC2
  refine n_take (i := 6) (d := some 62) (v := (.bool false)) h6 (wanted_none rfl) rfl (fun W hW => x_bin rfl (pO (by decide) (pS (pZ (pZ (pZ (pZ hsz)))) (by decide))) (pS (pZ (pZ (pZ (pZ (pZ hsz))))) (by decide)) (neq_errF W _ _ rfl)) ?_
  refine n_take (i := 7) (d := some 63) (v := (.bool false)) h7 (wanted_none rfl) rfl (fun W hW => x_move rfl (pS (pZ (pZ (pZ (pZ (pZ (pZ hsz)))))) (by decide))) ?_
  refine n_take (i := 8) (d := some 64) (v := (.slice yA yn yc)) h8 (wanted_yes rfl h7 rfl (pS (pZ (pZ (pZ (pZ (pZ (pZ (pZ hsz))))))) (by decide))) rfl (fun W hW => x_move rfl (pO (by decide) (pO (by decide) (pO (by decide) (pO (by decide) (pO (by decide) (pO (by decide) (pO (by decide) (pO (by decide) e12))))))))) ?_
  refine n_take (i := 9) (d := some 65) (v := (.int .i64 dv)) h9 (wanted_yes rfl h7 rfl (pO (by decide) (pS (pZ (pZ (pZ (pZ (pZ (pZ (pZ hsz))))))) (by decide)))) rfl (fun W hW => x_move rfl (pO (by decide) (pO (by decide) (pO (by decide) (pO (by decide) (pO (by decide) (pO (by decide) (pO (by decide) (pO (by decide) (pO (by decide) e13)))))))))) ?_
  refine n_take (i := 11) (d := some 67) (v := (.slice yA yn yc)) h11 (wanted_yes rfl h7 rfl (pO (by decide) (pO (by decide) (pS (pZ (pZ (pZ (pZ (pZ (pZ (pZ hsz))))))) (by decide))))) rfl (fun W hW => x_move rfl (pO (by decide) (pO (by decide) (pO (by decide) (pO (by decide) (pO (by decide) (pO (by decide) (pO (by decide) (pO (by decide) (pO (by decide) (pO (by decide) e12))))))))))) ?_
  refine n_take (i := 12) (d := some 68) (v := (.int .i64 dv)) h12 (wanted_yes rfl h7 rfl (pO (by decide) (pO (by decide) (pO (by decide) (pS (pZ (pZ (pZ (pZ (pZ (pZ (pZ hsz))))))) (by decide)))))) rfl (fun W hW => x_move rfl (pO (by decide) (pO (by decide) (pO (by decide) (pO (by decide) (pO (by decide) (pO (by decide) (pO (by decide) (pO (by decide) (pO (by decide) (pO (by decide) (pO (by decide) e13)))))))))))) ?_
  refine n_call (i := 10) (d := some 66) h10 (wanted_yes rfl h7 rfl (pO (by decide) (pO (by decide) (pO (by decide) (pO (by decide) (pS (pZ (pZ (pZ (pZ (pZ (pZ (pZ hsz))))))) (by decide))))))) rfl (x_call2 rfl (pO (by decide) (pO (by decide) (pO (by decide) (pS (pZ (pZ (pZ (pZ (pZ (pZ (pZ (pZ hsz)))))))) (by decide))))) (pO (by decide) (pO (by decide) (pS (pZ (pZ (pZ (pZ (pZ (pZ (pZ (pZ (pZ hsz))))))))) (by decide)))) (cfx16 _ _)) (Calls.mono (cP _ hB2) ?_)
  rintro e w3 ⟨rfl, hb3⟩
  refine ⟨_, rfl, Bel.trans hC2 hb3, ?_⟩
  have hC3 : Bel w.drew w3 := Bel.trans hC2 hb3
  have hB3 := Bel.trans hB0 hC3
  refine n_call (i := 13) (d := some 69) h13 (wanted_yes rfl h7 rfl (pO (by decide) (pO (by decide) (pO (by decide) (pO (by decide) (pO (by decide) (pS (pZ (pZ (pZ (pZ (pZ (pZ (pZ hsz))))))) (by decide)))))))) rfl (x_call2 rfl (pO (by decide) (pO (by decide) (pS (pZ (pZ (pZ (pZ (pZ (pZ (pZ (pZ (pZ (pZ hsz)))))))))) (by decide)))) (pO (by decide) (pS (pZ (pZ (pZ (pZ (pZ (pZ (pZ (pZ (pZ (pZ (pZ hsz))))))))))) (by decide))) (cfx17 _ _)) (Calls.mono (cRP _ hB3) ?_)
  rintro e w4 ⟨rfl, hb4⟩
  refine ⟨_, rfl, Bel.trans hC3 hb4, ?_⟩
  have hC4 : Bel w.drew w4 := Bel.trans hC3 hb4
  have hB4 := Bel.trans hB0 hC4
  refine n_take (i := 14) (d := some 70) (v := (.bool false)) h14 (wanted_yes rfl h7 rfl (pO (by decide) (pO (by decide) (pO (by decide) (pO (by decide) (pO (by decide) (pO (by decide) (pS (pZ (pZ (pZ (pZ (pZ (pZ (pZ hsz))))))) (by decide))))))))) rfl (fun W hW => x_bin rfl (pO (by decide) (pS (pZ (pZ (pZ (pZ (pZ (pZ (pZ (pZ (pZ (pZ (pZ (pZ hsz)))))))))))) (by decide))) (pS (pZ (pZ (pZ (pZ (pZ (pZ (pZ (pZ (pZ (pZ (pZ (pZ (pZ hsz))))))))))))) (by decide)) (neq_intF W _ _ rfl)) ?_
  refine n_take (i := 15) (d := some 71) (v := (.bool false)) h15 (wanted_none rfl) rfl (fun W hW => x_pickF rfl (pO (by decide) (pO (by decide) (pO (by decide) (pO (by decide) (pO (by decide) (pO (by decide) (pO (by decide) (pS (pZ (pZ (pZ (pZ (pZ (pZ (pZ hsz))))))) (by decide))))))))) (pS (pZ (pZ (pZ (pZ (pZ (pZ (pZ (pZ (pZ (pZ (pZ (pZ (pZ (pZ hsz)))))))))))))) (by decide))) ?_
  refine n_done ?_
  exact K _ _ _ _ _ _ _ _ _ _ _ _ _ _ _ _ (Lib.hid hB4)
set_option maxHeartbeats 1600000 in
theorem plans15 {ops : Array Oper} {Q : Exit → Act → World → Prop} {a : Act} {w : World} (id : Nat) {y0 y1 y2 y3 y4 y5 y6 y7 y8 y9 y10 y11 : TypeId} {q0 q1 q2 q3 q4 q5 q6 q7 q8 q9 q10 q11 : String} {f0 f1 f2 f3 f4 f5 f6 f7 f8 f9 f10 f11 : Array Edge} (hok : regT ops (.cons 1 true (.cons 2 true (.cons 0 true (.cons 3 true (.cons 4 true (.fork 5 9 (.cons 6 true (.cons 7 true (.cons 8 true (.cons 9 false (.cons 10 false (.cons 11 true .nil)))))) (.cons 5 false (.cons 6 true (.cons 7 true (.cons 8 true (.cons 10 false (.cons 11 true .nil)))))))))))) = true)
    (h0 : ops[0]? = some ⟨(some 79), .load 25 (.tmp 11), y0, q0, f0, none⟩) (h1 : ops[1]? = some ⟨(some 80), .move (.tmp 12), y1, q1, f1, none⟩) (h2 : ops[2]? = some ⟨(some 81), .move (.tmp 14), y2, q2, f2, none⟩) (h3 : ops[3]? = some ⟨(some 82), .indexAddr 26 (.tmp 80) (.tmp 81), y3, q3, f3, none⟩) (h4 : ops[4]? = some ⟨(some 83), .load 42 (.tmp 82), y4, q4, f4, none⟩) (h5 : ops[5]? = some ⟨(some 84), .call { callee := .value (.func 18), args := #[.tmp 79, .tmp 83], argTypes := #[25, 42] }, y5, q5, f5, none⟩) (h6 : ops[6]? = some ⟨(some 78), .move (.tmp 84), y6, q6, f6, none⟩) (h7 : ops[7]? = some ⟨(some 85), .extract (.tmp 78) 0, y7, q7, f7, none⟩) (h8 : ops[8]? = some ⟨(some 86), .extract (.tmp 78) 1, y8, q8, f8, none⟩) (h9 : ops[9]? = some ⟨(some 15), .alloc 38, y9, q9, f9, none⟩) (h10 : ops[10]? = some ⟨none, .store 38 (.tmp 15) (.tmp 85), y10, q10, f10, none⟩) (h11 : ops[11]? = some ⟨(some 16), .assign (.tmp 86), y11, q11, f11, none⟩)
    (hsz : 105 ≤ a.tmps.size) (hQ : ∀ c a (d : Nat) v w, Q (.panic c) (a.put (some d) v) w → Q (.panic c) a w) {gz g off n c k : Nat} {o d st mi x y e_ : Int} {zA : Option Addr} {zn zc : Nat} (e2 : a.eval (.tmp 11) = .pointer (some ⟨gz, 0, none⟩)) (e1 : a.eval (.tmp 12) = .slice (some ⟨g, off, none⟩) n c) (e7 : a.eval (.tmp 14) = .int .i64 k)
    (hk : k < n) (hz0 : w.cell? ⟨gz, 0, none⟩ = some (.int .i64 o)) (hz1 : w.cell? ⟨gz, 1, none⟩ = some (.slice zA zn zc)) (hs0 : w.cell? ⟨g, off + k * 3, none⟩ = some (.int .i64 d)) (hs1 : w.cell? ⟨g, off + k * 3 + 1, none⟩ = some (.int .i64 st)) (hs2 : w.cell? ⟨g, off + k * 3 + 2, none⟩ = some (.int .i64 mi))
    (cSp : ∀ W, Bel w W → Calls Try.prog 18 #[(.agg #[.int .i64 o, .slice zA zn zc]), (.agg #[.int .i64 d, .int .i64 st, .int .i64 mi])] W (fun r w' => r = .returned (.tuple #[.agg #[.int .i64 x, .int .i64 y], .int .i64 e_]) ∧ Below W.heap.size W w'))
    (K : ∀ z0 z1 z2 z3 z4 z5 z6 z7 z8 g8 w', Hid (Blk w' g8 38 #[.int .i64 x, .int .i64 y]) → Hid (Bel w w') → Hid (w.heap.size ≤ g8) → Q .normal (((((((((((a.put (some 80) z0).put (some 81) z1).put (some 79) z2).put (some 82) z3).put (some 83) z4).put (some 84) z5).put (some 78) z6).put (some 85) z7).put (some 86) z8).put (some 15) (.pointer (some ⟨g8, 0, none⟩))).put (some 16) (.int .i64 e_)) w') : (Code.region id ops true).wp Try.prog Q a w := by
  have kc : ∀ {p : Addr} {v : Value}, w.cell? p = some v → ∀ W, Bel w.drew W → W.cell? p = some v := fun {p} {v} h W hW => (hW.cell (p := p) (World.block_lt_of_cell? w.drew _ h)).trans h
  have cz : ∀ W, Bel w.drew W → (loadVar 25 ⟨gz, 0, none⟩).run Try.prog W = .ok (.agg #[.int .i64 o, .slice zA zn zc]) W := fun W hW => load25 (kc hz0 W hW) (kc hz1 W hW)
  have cs : ∀ W, Bel w.drew W → (loadVar 42 ⟨g, off + k * 3, none⟩).run Try.prog W = .ok (.agg #[.int .i64 d, .int .i64 st, .int .i64 mi]) W := fun W hW => load42 (kc hs0 W hW) (kc hs1 W hW) (kc hs2 W hW)
  have hB0 := Bel.drew w
  refine wp_region_WN (by kernel_rfl) hok hQ ?_
  refine n_take (i := 1) (d := some 80) (v := (.slice (some ⟨g, off, none⟩) n c)) h1 (wanted_none rfl) rfl (fun W hW => x_move rfl e1) ?_
  refine n_take (i := 2) (d := some 81) (v := (.int .i64 k)) h2 (wanted_none rfl) rfl (fun W hW => x_move rfl (pO (by decide) e7)) ?_
  refine n_take (i := 0) (d := some 79) (v := (.agg #[.int .i64 o, .slice zA zn zc])) h0 (wanted_none rfl) rfl (fun W hW => exec_load rfl (pO (by decide) (pO (by decide) e2)) (cz W hW)) ?_
  refine n_take (i := 3) (d := some 82) (v := (.pointer (some ⟨g, off + k * 3, none⟩))) h3 (wanted_none rfl) rfl (fun W hW => x_index rfl (pO (by decide) (pO (by decide) (pS hsz (by decide)))) (pO (by decide) (pS (pZ hsz) (by decide))) (run_idx26 W g off n c k hk)) ?_
  refine n_take (i := 4) (d := some 83) (v := (.agg #[.int .i64 d, .int .i64 st, .int .i64 mi])) h4 (wanted_none rfl) rfl (fun W hW => exec_load rfl (pS (pZ (pZ (pZ hsz))) (by decide)) (cs W hW)) ?_
  refine n_fork (i := 5) (j := 9) (d := some 84) (d' := some 15) (v' := (.pointer (some ⟨w.drew.heap.size, 0, none⟩))) (w' := w.drew.alloc (.cells #[.int .i64 0, .int .i64 0] 38)) h5 (wanted_none rfl) rfl (x_call2 rfl (pO (by decide) (pO (by decide) (pS (pZ (pZ hsz)) (by decide)))) (pS (pZ (pZ (pZ (pZ hsz)))) (by decide)) (cfx18 _ _)) h9 (wanted_none rfl) rfl (x_alloc38 rfl) ((Below.refl _ _).alloc (Nat.le_refl _) _) (Calls.mono (cSp _ hB0) ?_) ?_
  · rintro e w1 ⟨rfl, hb1⟩
    refine ⟨_, rfl, hb1, ?_⟩
    have hB1 := Bel.trans hB0 hb1
    refine n_take (i := 6) (d := some 78) (v := (.tuple #[(.agg #[.int .i64 x, .int .i64 y]), (.int .i64 e_)])) h6 (wanted_none rfl) rfl (fun W hW => x_move rfl (pS (pZ (pZ (pZ (pZ (pZ hsz))))) (by decide))) ?_
    refine n_take (i := 7) (d := some 85) (v := (.agg #[.int .i64 x, .int .i64 y])) h7 (wanted_none rfl) rfl (fun W hW => x_extract rfl (pS (pZ (pZ (pZ (pZ (pZ (pZ hsz)))))) (by decide)) rfl) ?_
    refine n_take (i := 8) (d := some 86) (v := (.int .i64 e_)) h8 (wanted_none rfl) rfl (fun W hW => x_extract rfl (pO (by decide) (pS (pZ (pZ (pZ (pZ (pZ (pZ hsz)))))) (by decide))) rfl) ?_
    refine n_val (i := 9) (d := some 15) (v := (.pointer (some ⟨w1.heap.size, 0, none⟩))) (w' := w1.alloc (.cells #[.int .i64 0, .int .i64 0] 38)) h9 (wanted_none rfl) rfl (x_alloc38 rfl) (Bel.alloc_ hb1 _) ?_
    refine n_unit (i := 10) (w' := ((w1.alloc (.cells #[.int .i64 0, .int .i64 0] 38)).setCell ⟨w1.heap.size, 0, none⟩ (.int .i64 x)).setCell ⟨w1.heap.size, 1, none⟩ (.int .i64 y)) h10 (wanted_none rfl) rfl (exec_store rfl (pS (pZ (pZ (pZ (pZ (pZ (pZ (pZ (pZ (pZ hsz))))))))) (by decide)) (pO (by decide) (pO (by decide) (pS (pZ (pZ (pZ (pZ (pZ (pZ (pZ hsz))))))) (by decide)))) (store38 (Blk.new _ _ _))) (Bel.put2 hb1 _ _ _) ?_
    refine n_take (i := 11) (d := some 16) (v := (.int .i64 e_)) h11 (wanted_none rfl) rfl (fun W hW => x_assign rfl (pO (by decide) (pS (pZ (pZ (pZ (pZ (pZ (pZ (pZ (pZ hsz)))))))) (by decide)))) ?_
    refine n_done ?_
    exact K _ _ _ _ _ _ _ _ _ w1.heap.size _ (Lib.hid (blk38 _ _ _)) (Lib.hid (Bel.trans (Bel.drew w) (Bel.put2 hb1 _ _ _))) (Lib.hid (Below.size hB1))
  · have hb0 : Bel w.drew (w.drew.alloc (.cells #[.int .i64 0, .int .i64 0] 38)) := (Below.refl _ _).alloc (Nat.le_refl _) _
    refine n_call (i := 5) (d := some 84) h5 (wanted_none rfl) rfl (x_call2 rfl (pO (by decide) (pO (by decide) (pO (by decide) (pS (pZ (pZ hsz)) (by decide))))) (pO (by decide) (pS (pZ (pZ (pZ (pZ hsz)))) (by decide))) (cfx18 _ _)) (Calls.mono (cSp _ (Bel.trans hB0 hb0)) ?_)
    rintro e w1 ⟨rfl, hb1⟩
    refine ⟨_, rfl, Bel.trans hb0 hb1, ?_⟩
    have hb : Blk w1 w.drew.heap.size 38 #[.int .i64 0, .int .i64 0] := (Blk.new w.drew 38 #[.int .i64 0, .int .i64 0]).below hb1 (by simp)
    refine n_take (i := 6) (d := some 78) (v := (.tuple #[(.agg #[.int .i64 x, .int .i64 y]), (.int .i64 e_)])) h6 (wanted_none rfl) rfl (fun W hW => x_move rfl (pS (pZ (pZ (pZ (pZ (pZ (pZ hsz)))))) (by decide))) ?_
    refine n_take (i := 7) (d := some 85) (v := (.agg #[.int .i64 x, .int .i64 y])) h7 (wanted_none rfl) rfl (fun W hW => x_extract rfl (pS (pZ (pZ (pZ (pZ (pZ (pZ (pZ hsz))))))) (by decide)) rfl) ?_
    refine n_take (i := 8) (d := some 86) (v := (.int .i64 e_)) h8 (wanted_none rfl) rfl (fun W hW => x_extract rfl (pO (by decide) (pS (pZ (pZ (pZ (pZ (pZ (pZ (pZ hsz))))))) (by decide))) rfl) ?_
    refine n_unit (i := 10) (w' := (w1.setCell ⟨w.drew.heap.size, 0, none⟩ (.int .i64 x)).setCell ⟨w.drew.heap.size, 1, none⟩ (.int .i64 y)) h10 (wanted_none rfl) rfl (exec_store rfl (pO (by decide) (pO (by decide) (pO (by decide) (pO (by decide) (pS (pZ (pZ (pZ (pZ (pZ hsz))))) (by decide)))))) (pO (by decide) (pS (pZ (pZ (pZ (pZ (pZ (pZ (pZ (pZ hsz)))))))) (by decide))) (store38 hb)) (Bel.set2 (Bel.trans hb0 hb1) (Nat.le_refl _) _ _) ?_
    refine n_take (i := 11) (d := some 16) (v := (.int .i64 e_)) h11 (wanted_none rfl) rfl (fun W hW => x_assign rfl (pS (pZ (pZ (pZ (pZ (pZ (pZ (pZ (pZ (pZ hsz))))))))) (by decide))) ?_
    refine n_done ?_
    rw [put_comm _ 15 84 _ _ (by decide), put_comm _ 15 78 _ _ (by decide), put_comm _ 15 85 _ _ (by decide), put_comm _ 15 86 _ _ (by decide)]
    exact K _ _ _ _ _ _ _ _ _ w.drew.heap.size _ (Lib.hid (blk38s hb _ _)) (Lib.hid (Bel.trans (Bel.drew w) (Bel.set2 (Bel.trans hb0 hb1) (Nat.le_refl _) _ _))) (Lib.hid (Nat.le_refl _))
set_option maxHeartbeats 1600000 in
theorem plans16 {ops : Array Oper} {Q : Exit → Act → World → Prop} {a : Act} {w : World} (id : Nat) {y0 y1 y2 y3 y4 y5 y6 y7 y8 y9 y10 y11 : TypeId} {q0 q1 q2 q3 q4 q5 q6 q7 q8 q9 q10 q11 : String} {f0 f1 f2 f3 f4 f5 f6 f7 f8 f9 f10 f11 : Array Edge} (hok : regT ops (.cons 1 true (.cons 2 true (.cons 0 true (.cons 3 true (.cons 4 true (.fork 5 9 (.cons 6 true (.cons 7 true (.cons 8 true (.cons 9 false (.cons 10 false (.cons 11 true .nil)))))) (.cons 5 false (.cons 6 true (.cons 7 true (.cons 8 true (.cons 10 false (.cons 11 true .nil)))))))))))) = true)
    (h0 : ops[0]? = some ⟨(some 88), .load 25 (.tmp 11), y0, q0, f0, none⟩) (h1 : ops[1]? = some ⟨(some 89), .move (.tmp 12), y1, q1, f1, none⟩) (h2 : ops[2]? = some ⟨(some 90), .move (.tmp 14), y2, q2, f2, none⟩) (h3 : ops[3]? = some ⟨(some 91), .indexAddr 26 (.tmp 89) (.tmp 90), y3, q3, f3, none⟩) (h4 : ops[4]? = some ⟨(some 92), .load 42 (.tmp 91), y4, q4, f4, none⟩) (h5 : ops[5]? = some ⟨(some 93), .call { callee := .value (.func 19), args := #[.tmp 88, .tmp 92], argTypes := #[25, 42] }, y5, q5, f5, none⟩) (h6 : ops[6]? = some ⟨(some 87), .move (.tmp 93), y6, q6, f6, none⟩) (h7 : ops[7]? = some ⟨(some 94), .extract (.tmp 87) 0, y7, q7, f7, none⟩) (h8 : ops[8]? = some ⟨(some 95), .extract (.tmp 87) 1, y8, q8, f8, none⟩) (h9 : ops[9]? = some ⟨(some 17), .alloc 38, y9, q9, f9, none⟩) (h10 : ops[10]? = some ⟨none, .store 38 (.tmp 17) (.tmp 94), y10, q10, f10, none⟩) (h11 : ops[11]? = some ⟨(some 18), .assign (.tmp 95), y11, q11, f11, none⟩)
    (hsz : 105 ≤ a.tmps.size) (hQ : ∀ c a (d : Nat) v w, Q (.panic c) (a.put (some d) v) w → Q (.panic c) a w) {gz g off n c k : Nat} {o d st mi x y e_ : Int} {zA : Option Addr} {zn zc : Nat} (e2 : a.eval (.tmp 11) = .pointer (some ⟨gz, 0, none⟩)) (e1 : a.eval (.tmp 12) = .slice (some ⟨g, off, none⟩) n c) (e7 : a.eval (.tmp 14) = .int .i64 k)
    (hk : k < n) (hz0 : w.cell? ⟨gz, 0, none⟩ = some (.int .i64 o)) (hz1 : w.cell? ⟨gz, 1, none⟩ = some (.slice zA zn zc)) (hs0 : w.cell? ⟨g, off + k * 3, none⟩ = some (.int .i64 d)) (hs1 : w.cell? ⟨g, off + k * 3 + 1, none⟩ = some (.int .i64 st)) (hs2 : w.cell? ⟨g, off + k * 3 + 2, none⟩ = some (.int .i64 mi))
    (cSp : ∀ W, Bel w W → Calls Try.prog 19 #[(.agg #[.int .i64 o, .slice zA zn zc]), (.agg #[.int .i64 d, .int .i64 st, .int .i64 mi])] W (fun r w' => r = .returned (.tuple #[.agg #[.int .i64 x, .int .i64 y], .int .i64 e_]) ∧ Below W.heap.size W w'))
    (K : ∀ z0 z1 z2 z3 z4 z5 z6 z7 z8 g8 w', Hid (Blk w' g8 38 #[.int .i64 x, .int .i64 y]) → Hid (Bel w w') → Hid (w.heap.size ≤ g8) → Q .normal (((((((((((a.put (some 89) z0).put (some 90) z1).put (some 88) z2).put (some 91) z3).put (some 92) z4).put (some 93) z5).put (some 87) z6).put (some 94) z7).put (some 95) z8).put (some 17) (.pointer (some ⟨g8, 0, none⟩))).put (some 18) (.int .i64 e_)) w') : (Code.region id ops true).wp Try.prog Q a w := by
  have kc : ∀ {p : Addr} {v : Value}, w.cell? p = some v → ∀ W, Bel w.drew W → W.cell? p = some v := fun {p} {v} h W hW => (hW.cell (p := p) (World.block_lt_of_cell? w.drew _ h)).trans h
  have cz : ∀ W, Bel w.drew W → (loadVar 25 ⟨gz, 0, none⟩).run Try.prog W = .ok (.agg #[.int .i64 o, .slice zA zn zc]) W := fun W hW => load25 (kc hz0 W hW) (kc hz1 W hW)
  have cs : ∀ W, Bel w.drew W → (loadVar 42 ⟨g, off + k * 3, none⟩).run Try.prog W = .ok (.agg #[.int .i64 d, .int .i64 st, .int .i64 mi]) W := fun W hW => load42 (kc hs0 W hW) (kc hs1 W hW) (kc hs2 W hW)
  have hB0 := Bel.drew w
  refine wp_region_WN (by kernel_rfl) hok hQ ?_
  refine n_take (i := 1) (d := some 89) (v := (.slice (some ⟨g, off, none⟩) n c)) h1 (wanted_none rfl) rfl (fun W hW => x_move rfl e1) ?_
  refine n_take (i := 2) (d := some 90) (v := (.int .i64 k)) h2 (wanted_none rfl) rfl (fun W hW => x_move rfl (pO (by decide) e7)) ?_
  refine n_take (i := 0) (d := some 88) (v := (.agg #[.int .i64 o, .slice zA zn zc])) h0 (wanted_none rfl) rfl (fun W hW => exec_load rfl (pO (by decide) (pO (by decide) e2)) (cz W hW)) ?_
  refine n_take (i := 3) (d := some 91) (v := (.pointer (some ⟨g, off + k * 3, none⟩))) h3 (wanted_none rfl) rfl (fun W hW => x_index rfl (pO (by decide) (pO (by decide) (pS hsz (by decide)))) (pO (by decide) (pS (pZ hsz) (by decide))) (run_idx26 W g off n c k hk)) ?_
  refine n_take (i := 4) (d := some 92) (v := (.agg #[.int .i64 d, .int .i64 st, .int .i64 mi])) h4 (wanted_none rfl) rfl (fun W hW => exec_load rfl (pS (pZ (pZ (pZ hsz))) (by decide)) (cs W hW)) ?_
  refine n_fork (i := 5) (j := 9) (d := some 93) (d' := some 17) (v' := (.pointer (some ⟨w.drew.heap.size, 0, none⟩))) (w' := w.drew.alloc (.cells #[.int .i64 0, .int .i64 0] 38)) h5 (wanted_none rfl) rfl (x_call2 rfl (pO (by decide) (pO (by decide) (pS (pZ (pZ hsz)) (by decide)))) (pS (pZ (pZ (pZ (pZ hsz)))) (by decide)) (cfx19 _ _)) h9 (wanted_none rfl) rfl (x_alloc38 rfl) ((Below.refl _ _).alloc (Nat.le_refl _) _) (Calls.mono (cSp _ hB0) ?_) ?_
  · rintro e w1 ⟨rfl, hb1⟩
    refine ⟨_, rfl, hb1, ?_⟩
    have hB1 := Bel.trans hB0 hb1
    refine n_take (i := 6) (d := some 87) (v := (.tuple #[(.agg #[.int .i64 x, .int .i64 y]), (.int .i64 e_)])) h6 (wanted_none rfl) rfl (fun W hW => x_move rfl (pS (pZ (pZ (pZ (pZ (pZ hsz))))) (by decide))) ?_
    refine n_take (i := 7) (d := some 94) (v := (.agg #[.int .i64 x, .int .i64 y])) h7 (wanted_none rfl) rfl (fun W hW => x_extract rfl (pS (pZ (pZ (pZ (pZ (pZ (pZ hsz)))))) (by decide)) rfl) ?_
    refine n_take (i := 8) (d := some 95) (v := (.int .i64 e_)) h8 (wanted_none rfl) rfl (fun W hW => x_extract rfl (pO (by decide) (pS (pZ (pZ (pZ (pZ (pZ (pZ hsz)))))) (by decide))) rfl) ?_
    refine n_val (i := 9) (d := some 17) (v := (.pointer (some ⟨w1.heap.size, 0, none⟩))) (w' := w1.alloc (.cells #[.int .i64 0, .int .i64 0] 38)) h9 (wanted_none rfl) rfl (x_alloc38 rfl) (Bel.alloc_ hb1 _) ?_
    refine n_unit (i := 10) (w' := ((w1.alloc (.cells #[.int .i64 0, .int .i64 0] 38)).setCell ⟨w1.heap.size, 0, none⟩ (.int .i64 x)).setCell ⟨w1.heap.size, 1, none⟩ (.int .i64 y)) h10 (wanted_none rfl) rfl (exec_store rfl (pS (pZ (pZ (pZ (pZ (pZ (pZ (pZ (pZ (pZ hsz))))))))) (by decide)) (pO (by decide) (pO (by decide) (pS (pZ (pZ (pZ (pZ (pZ (pZ (pZ hsz))))))) (by decide)))) (store38 (Blk.new _ _ _))) (Bel.put2 hb1 _ _ _) ?_
    refine n_take (i := 11) (d := some 18) (v := (.int .i64 e_)) h11 (wanted_none rfl) rfl (fun W hW => x_assign rfl (pO (by decide) (pS (pZ (pZ (pZ (pZ (pZ (pZ (pZ (pZ hsz)))))))) (by decide)))) ?_
    refine n_done ?_
    exact K _ _ _ _ _ _ _ _ _ w1.heap.size _ (Lib.hid (blk38 _ _ _)) (Lib.hid (Bel.trans (Bel.drew w) (Bel.put2 hb1 _ _ _))) (Lib.hid (Below.size hB1))
  · have hb0 : Bel w.drew (w.drew.alloc (.cells #[.int .i64 0, .int .i64 0] 38)) := (Below.refl _ _).alloc (Nat.le_refl _) _
    refine n_call (i := 5) (d := some 93) h5 (wanted_none rfl) rfl (x_call2 rfl (pO (by decide) (pO (by decide) (pO (by decide) (pS (pZ (pZ hsz)) (by decide))))) (pO (by decide) (pS (pZ (pZ (pZ (pZ hsz)))) (by decide))) (cfx19 _ _)) (Calls.mono (cSp _ (Bel.trans hB0 hb0)) ?_)
    rintro e w1 ⟨rfl, hb1⟩
    refine ⟨_, rfl, Bel.trans hb0 hb1, ?_⟩
    have hb : Blk w1 w.drew.heap.size 38 #[.int .i64 0, .int .i64 0] := (Blk.new w.drew 38 #[.int .i64 0, .int .i64 0]).below hb1 (by simp)
    refine n_take (i := 6) (d := some 87) (v := (.tuple #[(.agg #[.int .i64 x, .int .i64 y]), (.int .i64 e_)])) h6 (wanted_none rfl) rfl (fun W hW => x_move rfl (pS (pZ (pZ (pZ (pZ (pZ (pZ hsz)))))) (by decide))) ?_
    refine n_take (i := 7) (d := some 94) (v := (.agg #[.int .i64 x, .int .i64 y])) h7 (wanted_none rfl) rfl (fun W hW => x_extract rfl (pS (pZ (pZ (pZ (pZ (pZ (pZ (pZ hsz))))))) (by decide)) rfl) ?_
    refine n_take (i := 8) (d := some 95) (v := (.int .i64 e_)) h8 (wanted_none rfl) rfl (fun W hW => x_extract rfl (pO (by decide) (pS (pZ (pZ (pZ (pZ (pZ (pZ (pZ hsz))))))) (by decide))) rfl) ?_
    refine n_unit (i := 10) (w' := (w1.setCell ⟨w.drew.heap.size, 0, none⟩ (.int .i64 x)).setCell ⟨w.drew.heap.size, 1, none⟩ (.int .i64 y)) h10 (wanted_none rfl) rfl (exec_store rfl (pO (by decide) (pO (by decide) (pO (by decide) (pO (by decide) (pS (pZ (pZ (pZ (pZ (pZ hsz))))) (by decide)))))) (pO (by decide) (pS (pZ (pZ (pZ (pZ (pZ (pZ (pZ (pZ hsz)))))))) (by decide))) (store38 hb)) (Bel.set2 (Bel.trans hb0 hb1) (Nat.le_refl _) _ _) ?_
    refine n_take (i := 11) (d := some 18) (v := (.int .i64 e_)) h11 (wanted_none rfl) rfl (fun W hW => x_assign rfl (pS (pZ (pZ (pZ (pZ (pZ (pZ (pZ (pZ (pZ hsz))))))))) (by decide))) ?_
    refine n_done ?_
    rw [put_comm _ 17 93 _ _ (by decide), put_comm _ 17 87 _ _ (by decide), put_comm _ 17 94 _ _ (by decide), put_comm _ 17 95 _ _ (by decide)]
    exact K _ _ _ _ _ _ _ _ _ w.drew.heap.size _ (Lib.hid (blk38s hb _ _)) (Lib.hid (Bel.trans (Bel.drew w) (Bel.set2 (Bel.trans hb0 hb1) (Nat.le_refl _) _ _))) (Lib.hid (Nat.le_refl _))
end Go.Proofs.Ytagkdkkpgcolkaa
namespace Go.Proofs.Ytagkdkkpgcolkaa
open Go.RowKit
set_option linter.unusedVariables false
set_option linter.unusedSimpArgs false
/-- what holds throughout a law: the tape at block g, all that was there at the beginning as it was -/
structure LW (wb : World) (g : Nat) (M : Int) (W : World) : Prop where
  below : Below wb.heap.size wb W
  deck : Deck W g M
  gb : wb.heap.size ≤ g
section
variable {wb w0 W W' : World} {g : Nat} {M M' : Int}
theorem LW.only (h : LW wb g M W) (ho : Only g W W') (hD : Deck W' g M') : LW wb g M' W' := ⟨h.below.trans (ho.below h.below.size h.gb), hD, h.gb⟩
theorem LW.bel (h : LW wb g M W) (hb : Below W.heap.size W W') : LW wb g M W' := ⟨h.below.trans (hb.mono h.below.size), h.deck.below hb h.deck.lt, h.gb⟩
theorem LW.more (h : LW wb g M W) (hM : M ≤ M') : LW wb g M' W := ⟨h.below, h.deck.more hM, h.gb⟩
theorem LW.pr {A : Option Addr} {c : Nat} {l : List T3} (h : LW wb g M w0) (hp : PR w0 g M' A c l W) : LW wb g M' W := h.only hp.only hp.deck
end
section
variable {o : Int} {zl : List (Int × Int)} {l : List T3} {zA A : Option Addr} {zc zn n c : Nat} {W : World}
theorem valid_at {ve : Int} (hzn : Hid (zn = zl.length)) (hn : Hid (n = l.length)) (hv : Hid (ve = vE o zl l)) (hz : RdP W W.heap.size zA zl) (hzl : Hid (zl.length ≤ 9223372036854775807)) (hr : RdT W W.heap.size A l) (hl : n ≤ 9223372036854775807) : Calls Try.prog 14 #[.agg #[.int .i64 o, .slice zA zn zc], .slice A n c] W (RetI ve W) := by
  rw [hv.out]; exact valid_any o zA zc zn zl A c n l W hzn hn hz hzl.out hr hl
theorem rvalid10_as {ve : Int} (hzn : Hid (zn = zl.length)) (hn : Hid (n = l.length)) (hv : Hid (ve = vE o zl l)) (hz : RdP W W.heap.size zA zl) (hzl : Hid (zl.length ≤ 9223372036854775807)) (hr : RdT W W.heap.size A l) (hl : n ≤ 9223372036854775807) : Calls Try.prog 15 #[.agg #[.int .i64 o, .slice zA zn zc], .slice A n c] W (RetI ve W) := by
  rw [hv.out]; exact rvalid10_any o zA zc zn zl A c n l W hzn hn hz hzl.out hr hl
theorem planned_at {day p : Int} (hn : Hid (n = l.length)) (hp : Hid (p = plV l day)) (hr : RdT W W.heap.size A l) (hl : n ≤ 9223372036854775807) (hc : n ≤ c) (hcm : c ≤ 9223372036854775807) : Calls Try.prog 16 #[.slice A n c, .int .i64 day] W (RetI p W) := by
  have e := hn.out
  subst e
  rw [hp.out]; exact planned_any A c l day W hr hl hc hcm
theorem rplanned_at {day p : Int} (hn : Hid (n = l.length)) (hp : Hid (p = plV l day)) (hr : RdT W W.heap.size A l) (hl : n ≤ 9223372036854775807) : Calls Try.prog 17 #[.slice A n c, .int .i64 day] W (RetI p W) := by
  have e := hn.out
  subst e
  rw [hp.out]; exact rplanned_any A c l day W hr hl
end
theorem run_eqIvSame (a b : Int) (w : World) : (Op.equalIn 10000 38 (.agg #[.int .i64 a, .int .i64 b]) (.agg #[.int .i64 a, .int .i64 b])).run Try.prog w = .ok true w := by
  rw [run_eqIv]; simp
theorem blk_two {w : World} {g : Nat} {t : TypeId} {a b u v : Value} (h : Blk w g t #[a, b]) : Blk ((w.setCell ⟨g, 0, none⟩ u).setCell ⟨g, 1, none⟩ v) g t #[u, v] := by simpa using (h.set_ 0 u).set_ 1 v
theorem LW.set2 {wb W : World} {g gx : Nat} {M : Int} (h : LW wb g M W) (hx : g < gx) (u v : Value) : LW wb g M ((W.setCell ⟨gx, 0, none⟩ u).setCell ⟨gx, 1, none⟩ v) := by
  have ho : Only gx W ((W.setCell ⟨gx, 0, none⟩ u).setCell ⟨gx, 1, none⟩ v) := ((Only.refl gx W).setCell (p := ⟨gx, 0, none⟩) (.inl rfl) _).setCell (p := ⟨gx, 1, none⟩) (.inl rfl) _
  have hg := h.gb
  refine ⟨?_, h.deck.only ho hx, h.gb⟩
  exact (h.below.setCell (p := ⟨gx, 0, none⟩) (by show wb.heap.size ≤ gx; omega) _).setCell (p := ⟨gx, 1, none⟩) (by show wb.heap.size ≤ gx; omega) _
set_option maxRecDepth 100000 in
set_option maxHeartbeats 6400000 in
theorem shiftPlans_walk (A0 : Option Addr) (c0 : Nat) (l0 : List Int) (oz : Int) (Az : Option Addr) (cz : Nat) (lz : List (Int × Int)) (Ap : Option Addr) (cp : Nat) (lp : List T3) (day0 : Int) (w : World) (hr0 : RdI w w.heap.size A0 l0) (hl0 : l0.length ≤ 9223372036854775807) (hrz : RdP w w.heap.size Az lz) (hlz : lz.length ≤ 9223372036854775807) (hrp : RdT w w.heap.size Ap lp) (hlp : lp.length ≤ 9223372036854775807) (hpc : lp.length ≤ cp) (hpm : cp ≤ 9223372036854775807) :
    Calls Try.prog 3 #[.slice A0 l0.length c0, .agg #[.int .i64 oz, .slice Az lz.length cz], .slice Ap lp.length cp, .int .i64 day0] w (RetB true w) := by
  obtain ⟨wb, hwb⟩ : ∃ wb, wb = w.alloc (.cells #[.int .i64 oz, .slice Az lz.length cz] 25) := ⟨_, rfl⟩
  have HBW : Hid (Below w.heap.size w wb) := Lib.hid (by rw [hwb]; exact (Below.refl _ _).alloc (Nat.le_refl _) _)
  have HSW : Hid (wb.heap.size = w.heap.size + 1) := Lib.hid (by rw [hwb]; simp)
  have HBX : Hid (Blk wb w.heap.size 25 #[.int .i64 oz, .slice Az lz.length cz]) := Lib.hid (by rw [hwb]; exact Blk.new _ _ _)
  have HNEW : Hid (Calls Try.prog 8 #[.slice A0 l0.length c0] wb fun e w' => e = .returned (.pointer (some ⟨w.heap.size + 1, 0, none⟩)) ∧ Below wb.heap.size wb w' ∧ Deck w' (w.heap.size + 1) 0) := Lib.hid (by
    refine (new_any A0 c0 l0 wb (Rd.more (RdI.below hr0 HBW.out) HBW.out.size) hl0).mono ?_
    rintro e w' ⟨rfl, h1, h2, h3⟩
    rw [HSW.out] at h2
    exact ⟨by rw [HSW.out], h1, h2⟩)
  have HRZ : Hid (RdP wb wb.heap.size Az lz) := Lib.hid (Rd.more (hrz.below HBW.out) HBW.out.size)
  have HRP : Hid (RdT wb wb.heap.size Ap lp) := Lib.hid (Rd.more (hrp.below HBW.out) HBW.out.size)
  clear hr0 hrz hrp
  go_enter Try.func3, Try.ntmps3
  go_wp2_with fail
  rw [← hwb]
  clear hwb
  refine HNEW.out.mono ?_
  rintro e w1 ⟨rfl, hb1, hd1⟩
  generalize hg : w.heap.size + 1 = g at *
  have HL1 : Hid (LW wb g 0 w1) := Lib.hid ⟨hb1, hd1, by rw [HSW.out]; exact Nat.le_refl _⟩
  have hgx : Hid (w.heap.size < wb.heap.size) := Lib.hid HBX.out.lt
  clear hb1 hd1 HNEW hg HSW
  go_wp2
  go_loopw [10] (fun i wr => ∃ k : Nat, k ≤ 4 ∧ i = .int .i64 k ∧ LW wb g (60 * (k : Int)) wr) (fun i _ => 4 - (intOf i).toNat)
  case atStart => exact ⟨0, by omega, rfl, by simpa using HL1.out⟩
  case round =>
    obtain ⟨k, hk, rfl, hlw⟩ := hrel
    have HLr := Lib.hid hlw
    clear hlw HL1
    by_cases hlt : k < 4
    · go_wp2_with fail
      refine (zone_any g (60 * (k : Int)) _ HLr.out.deck (by omega)).mono ?_
      rintro e w2 ⟨o, A, c, l, a, rfl, hgen, hr, hne, ho2, hD2⟩
      have hl3 := hgen.1
      have HL2 : Hid (LW wb g (60 * (k : Int) + 20) w2) := Lib.hid (HLr.out.only ho2 hD2)
      have HR2 := Lib.hid hr
      have HNe2 : Hid (∀ b off, A = some ⟨b, off, none⟩ → b ≠ g) := Lib.hid (fun b off e => by have h1 := hne b off e; have h2 := HLr.out.deck.lt; omega)
      clear hgen hr hne ho2 hD2 HLr
      go_wp2_with fail
      refine (plan_any g (60 * (k : Int) + 20) 5 5 _ HL2.out.deck (by omega) rfl (by omega)).mono ?_
      rintro e w3 ⟨A1, c1, l1, rfl, hpk, hpr⟩
      have HP3 := Lib.hid hpr
      have hl12 := hpk.1
      clear hpr hpk
      go_wp2_with fail
      refine (spoil_any HL2.out.deck.lt HP3.out hl12 (by omega)).mono ?_
      rintro e w4 ⟨A2, c2, l2, rfl, hl2, hpr⟩
      have HP4 := Lib.hid hpr
      clear hpr HP3 hl12
      go_wp2_with fail
      refine (next_any g _ 5 _ HP4.out.deck (by omega) (by omega) (by omega)).mono ?_
      rintro e w5 ⟨dd, rfl, hdd, ho, hD⟩
      have HP5 : Hid (PR w2 g (60 * (k : Int) + 20 + 24 + 5 + 1) A2 c2 l2 w5) := Lib.hid (PR.draw (hgl := HL2.out.deck.lt) HP4.out ho hD)
      have HL5 : Hid (LW wb g (60 * (k : Int) + 20 + 24 + 5 + 1) w5) := Lib.hid (HL2.out.pr HP5.out)
      have HRg5 : Hid (RdP w5 w5.heap.size A l) := Lib.hid (Rd.more (Rd.only' HR2.out HP5.out.only (Nat.le_refl _) HNe2.out) HP5.out.only.size)
      have HNe : Hid (∀ b off, A = some ⟨b, off, none⟩ → b ≠ g) := HNe2
      have HRow5 : Hid (w5.ownsRow w2.heap.size 42 3 (.slice A2 l2.length c2) l2.length (flat3 l2)) := Lib.hid HP5.out.own
      clear ho hD HP4 HR2 HNe2 HP5
      have HL5' := HL5
      go_wp2_with fail
      obtain ⟨wy, Hwy⟩ : ∃ W, Hid (W = w5.alloc (.cells #[.int .i64 o, .slice A l.length c] 25)) := ⟨_, Lib.hid rfl⟩
      obtain ⟨gx, Hgx⟩ : ∃ x, Hid (x = w5.heap.size) := ⟨_, Lib.hid rfl⟩
      rw [← Hwy.out, ← Hgx.out]
      have HX5 : Hid (Blk wy gx 25 #[.int .i64 o, .slice A l.length c]) := Lib.hid (by rw [Hwy.out, Hgx.out]; exact Blk.new _ _ _)
      have HLy : Hid (LW wb g (60 * (k : Int) + 20 + 24 + 5 + 1) wy) := Lib.hid (by rw [Hwy.out]; exact HL5.out.bel ((Below.refl _ _).alloc (Nat.le_refl _) _))
      have HGX : Hid (g < gx) := Lib.hid (by rw [Hgx.out]; exact HL5.out.deck.lt)
      have HRowy : Hid (wy.ownsRow w2.heap.size 42 3 (.slice A2 l2.length c2) l2.length (flat3 l2)) := Lib.hid (by rw [Hwy.out]; exact HRow5.out.alloc _)
      have HRgy : Hid (RdP wy wy.heap.size A l) := Lib.hid (by rw [Hwy.out]; exact rdP_up HRg5 ((Below.refl _ _).alloc (Nat.le_refl _) _))
      have HG2 : Hid (g < w2.heap.size) := Lib.hid HL2.out.deck.lt
      clear Hwy HRow5 HRg5 HL5 HL5' HL2
      refine (next_any g _ 10 _ HLy.out.deck (by omega) (by omega) (by omega)).mono ?_
      rintro e w6 ⟨v, rfl, hv, ho, hD⟩
      have HX6 : Hid (Blk w6 gx 25 #[.int .i64 o, .slice A l.length c]) := Lib.hid (HX5.out.grown ho (by intro e; injection e with e; have := HGX.out; omega))
      have HL6 : Hid (LW wb g (60 * (k : Int) + 51) w6) := Lib.hid ((HLy.out.only ho hD).more (by omega))
      have HRow6 : Hid (w6.ownsRow w2.heap.size 42 3 (.slice A2 l2.length c2) l2.length (flat3 l2)) := Lib.hid (World.ownsRow.kept HRowy.out ho (.inr (fun e => by have := (World.ownsRow.lt HRowy.out g e).1; have := HG2.out; omega)))
      have HRg6 : Hid (RdP w6 w6.heap.size A l) := Lib.hid (Rd.more (Rd.only' HRgy.out ho (Nat.le_refl _) HNe.out) ho.size)
      clear ho hD HX5 HLy HRowy HRgy
      by_cases hv9 : v = 9
      · have hvb : (v == 9) = true := by rw [beq_iff_eq]; exact hv9
        have x0 : w6.cell? ⟨gx, 0, none⟩ = some (.int .i64 o) := by have := HX6.out.cell 0; simpa using this
        have x1 : w6.cell? ⟨gx, 1, none⟩ = some (.slice A l.length c) := by have := HX6.out.cell 1; simpa using this
        go_wp2_with fail
        refine (spoilZone_any g (60 * (k : Int) + 51) o A c l _ HL6.out.deck (by omega) HRg6.out hl3).mono ?_
        rintro e w7 ⟨o3, A3, c3, l3, rfl, hl10, hr3, hf3, ho, hD⟩
        have HX7 : Hid (Blk w7 gx 25 #[.int .i64 o, .slice A l.length c]) := Lib.hid (HX6.out.grown ho (by intro e; injection e with e; have := HGX.out; omega))
        have HL7 : Hid (LW wb g (60 * (k : Int) + 53) w7) := Lib.hid ((HL6.out.only ho hD).more (by omega))
        have HRow7 : Hid (w7.ownsRow w2.heap.size 42 3 (.slice A2 l2.length c2) l2.length (flat3 l2)) := Lib.hid (World.ownsRow.kept HRow6.out ho (.inr (fun e => by have := (World.ownsRow.lt HRow6.out g e).1; have := HG2.out; omega)))
        have HR7 := Lib.hid hr3
        have HF7 : Hid (∀ b off, A3 = some ⟨b, off, none⟩ → b ≠ gx) := Lib.hid (fun b off e => by have h1 := hf3 b off e; have h2 := HX6.out.lt; omega)
        clear ho hD hr3 hf3 x0 x1 HX6 HL6 HRow6 HRg6 HNe
        have x0 : w7.cell? ⟨gx, 0, none⟩ = some (.int .i64 o) := by have := HX7.out.cell 0; simpa using this
        have x1 : w7.cell? ⟨gx, 1, none⟩ = some (.slice A l.length c) := by have := HX7.out.cell 1; simpa using this
        have xf0 : w7.frozen? ⟨gx, 0, none⟩ = false := HX7.out.frozen 0
        have xf1 : w7.frozen? ⟨gx, 1, none⟩ = false := HX7.out.frozen 1
        go_upto_region 8 with (fail)
        obtain ⟨wx, Hwx⟩ : ∃ W, Hid (W = (w7.setCell ⟨gx, 0, none⟩ (.int .i64 o3)).setCell ⟨gx, 1, none⟩ (.slice A3 l3.length c3)) := ⟨_, Lib.hid rfl⟩
        rw [← Hwx.out]
        have hOg : Only gx w7 wx := by rw [Hwx.out]; exact ((Only.refl gx w7).setCell (p := ⟨gx, 0, none⟩) (.inl rfl) _).setCell (p := ⟨gx, 1, none⟩) (.inl rfl) _
        have HX0 : Hid (Blk wx gx 25 #[.int .i64 o3, .slice A3 l3.length c3]) := Lib.hid (by rw [Hwx.out]; exact blk_two HX7.out)
        have HLx : Hid (LW wb g (60 * (k : Int) + 53) wx) := Lib.hid (by rw [Hwx.out]; exact HL7.out.set2 HGX.out _ _)
        have HRow : Hid (wx.ownsRow w2.heap.size 42 3 (.slice A2 l2.length c2) l2.length (flat3 l2)) := Lib.hid (World.ownsRow.kept HRow7.out hOg (.inr (fun e => by
          obtain ⟨cs, hc⟩ := own_blk HRow7.out e
          exact Blk.ne_ hc HX7.out (by decide) rfl)))
        have HXR0 : Hid (RdP wx wx.heap.size A3 l3) := Lib.hid (Rd.more (Rd.only' HR7.out hOg (Nat.le_refl _) HF7.out) hOg.size)
        have hx10 : Hid (l3.length ≤ 10) := Lib.hid hl10
        clear hOg Hwx x0 x1 xf0 xf1 HX7 HL7 HRow7 HR7 HF7 hl10
        -- here, at wx: HX0, Hxn0, hx10, HXR0, HRow, HLx
        have z0 : wx.cell? ⟨w.heap.size, 0, none⟩ = some (.int .i64 oz) := by have := (HBX.out.below HLx.out.below hgx.out).cell 0; simpa using this
        have z1 : wx.cell? ⟨w.heap.size, 1, none⟩ = some (.slice Az lz.length cz) := by have := (HBX.out.below HLx.out.below hgx.out).cell 1; simpa using this
        go_cut [52] (fun s wy => s = .bool (decide (k = 3 ∧ lp.length ≤ 20 ∧ lz.length ≤ 20)) ∧ wy = wx)
        case first =>
          by_cases e1 : k = 3
          · by_cases e2 : lp.length ≤ 20
            · by_cases e3 : lz.length ≤ 20
              · have hb1 : decide ((k : Int) = 3) = true := by rw [decide_eq_true_iff]; omega
                have hb2 : decide ((lp.length : Int) ≤ 20) = true := by rw [decide_eq_true_iff]; omega
                have hb3 : decide ((lz.length : Int) ≤ 20) = true := by rw [decide_eq_true_iff]; omega
                have hbb : ((k : Int) == 3) = true := by rw [beq_iff_eq]; omega
                have hD : Hid (decide (k = 3 ∧ lp.length ≤ 20 ∧ lz.length ≤ 20) = true) := Lib.hid (decide_eq_true ⟨e1, e2, e3⟩)
                go_wp2_with fail
                go_meet
                exact ⟨by rw [hD.out], rfl⟩
              · have hb1 : decide ((k : Int) = 3) = true := by rw [decide_eq_true_iff]; omega
                have hb2 : decide ((lp.length : Int) ≤ 20) = true := by rw [decide_eq_true_iff]; omega
                have hb3 : decide ((lz.length : Int) ≤ 20) = false := by rw [decide_eq_false_iff_not]; omega
                have hbb : ((k : Int) == 3) = true := by rw [beq_iff_eq]; omega
                have hD : Hid (decide (k = 3 ∧ lp.length ≤ 20 ∧ lz.length ≤ 20) = false) := Lib.hid (decide_eq_false (fun h => e3 h.2.2))
                go_wp2_with fail
                go_meet
                exact ⟨by rw [hD.out], rfl⟩
            · have hb1 : decide ((k : Int) = 3) = true := by rw [decide_eq_true_iff]; omega
              have hb2 : decide ((lp.length : Int) ≤ 20) = false := by rw [decide_eq_false_iff_not]; omega
              have hbb : ((k : Int) == 3) = true := by rw [beq_iff_eq]; omega
              have hD : Hid (decide (k = 3 ∧ lp.length ≤ 20 ∧ lz.length ≤ 20) = false) := Lib.hid (decide_eq_false (fun h => e2 h.2.1))
              go_wp2_with fail
              go_meet
              exact ⟨by rw [hD.out], rfl⟩
          · have hb1 : decide ((k : Int) = 3) = false := by rw [decide_eq_false_iff_not]; omega
            have hbb : ((k : Int) == 3) = false := by rw [beq_eq_false_iff_ne]; omega
            have hD : Hid (decide (k = 3 ∧ lp.length ≤ 20 ∧ lz.length ≤ 20) = false) := Lib.hid (decide_eq_false (fun h => e1 h.1))
            go_wp2_with fail
            go_meet
            exact ⟨by rw [hD.out], rfl⟩
        case rest =>
          obtain ⟨hs, hwc⟩ := hcut
          rw [hs, hwc]
          clear hs hwc
          by_cases h3 : k = 3 ∧ lp.length ≤ 20 ∧ lz.length ≤ 20
          · have hD3 : decide (k = 3 ∧ lp.length ≤ 20 ∧ lz.length ≤ 20) = true := decide_eq_true h3
            rw [hD3]
            have x0 : wx.cell? ⟨gx, 0, none⟩ = some (.int .i64 o3) := by have := HX0.out.cell 0; simpa using this
            have x1 : wx.cell? ⟨gx, 1, none⟩ = some (.slice A3 l3.length c3) := by have := HX0.out.cell 1; simpa using this
            have xf0 : wx.frozen? ⟨gx, 0, none⟩ = false := HX0.out.frozen 0
            have xf1 : wx.frozen? ⟨gx, 1, none⟩ = false := HX0.out.frozen 1
            have hzp : ¬ w.heap.size = gx := by have := HGX.out; have := HLx.out.gb; have := hgx.out; omega
            have hzp2 : ¬ gx = w.heap.size := fun h => hzp h.symm
            go_upto_region 10 with (fail)
            clear hD3 x0 x1 xf0 xf1 z0 z1
            obtain ⟨wt, Hwt⟩ : ∃ W, Hid (W = (wx.setCell ⟨gx, 0, none⟩ (.int .i64 oz)).setCell ⟨gx, 1, none⟩ (.slice Az lz.length cz)) := ⟨_, Lib.hid rfl⟩
            rw [← Hwt.out]
            have HX : Hid (Blk wt gx 25 #[.int .i64 oz, .slice Az lz.length cz]) := Lib.hid (by rw [Hwt.out]; exact blk_two HX0.out)
            have HL : Hid (LW wb g (60 * (k : Int) + 60) wt) := Lib.hid (by rw [Hwt.out]; exact (HLx.out.more (by omega)).set2 HGX.out _ _)
            have HXR : Hid (RdP wt wt.heap.size Az lz) := Lib.hid (rdP_up HRZ HL.out.below)
            have HY : Hid (RdT wt wt.heap.size Ap lp) := Lib.hid (rdT_up HRP HL.out.below)
            have Hxn : Hid (lz.length = lz.length) := Lib.hid rfl
            have HXL : Hid (lz.length ≤ 9223372036854775807) := Lib.hid hlz
            have Hyn : Hid (lp.length = lp.length) := Lib.hid rfl
            have hyl := hlp
            have hyc := hpc
            have hycm := hpm
            clear Hwt HX0 HXR0 HRow HLx
            -- here: HX (the box of x), (Lib.hid rfl), HXL, HXR, HY, (Lib.hid rfl), hyc, hycm, HL (LW .. wt)
            have x0 : wt.cell? ⟨gx, 0, none⟩ = some (.int .i64 oz) := by have := HX.out.cell 0; simpa using this
            have x1 : wt.cell? ⟨gx, 1, none⟩ = some (.slice Az lz.length cz) := by have := HX.out.cell 1; simpa using this
            have HX0 := Lib.hid x0
            have HX1 := Lib.hid x1
            clear x0 x1
            obtain ⟨ve, Hve⟩ : ∃ v, Hid (v = vE oz lz lp) := ⟨_, Lib.hid rfl⟩
            obtain ⟨pv, Hpv⟩ : ∃ v, Hid (v = plV lp day0) := ⟨_, Lib.hid rfl⟩
            go_upto_region 10 with (fail)
            refine plans10 (ve := ve) (pv := pv) 10 (by kernel_rfl) rfl rfl rfl rfl rfl rfl rfl rfl rfl rfl rfl rfl rfl rfl rfl rfl (show 105 ≤ 105 from by decide) (fun _ _ _ _ _ h => h) rfl rfl rfl HX0.out HX1.out (fun W hW => valid_at (Lib.hid rfl) (Lib.hid rfl) Hve (rdP_up HXR hW) HXL (rdT_up HY hW) hyl) (fun W hW => rvalid10_as (Lib.hid rfl) (Lib.hid rfl) Hve (rdP_up HXR hW) HXL (rdT_up HY hW) hyl) (fun W hW => planned_at (Lib.hid rfl) Hpv (rdT_up HY hW) hyl hyc hycm) (fun W hW => rplanned_at (Lib.hid rfl) Hpv (rdT_up HY hW) hyl) ?_
            intro z0 z1 z2 z3 z4 z5 z6 z7 z8 z9 z10 z11 z12 z13 z14 w6 HB6
            simp only [Act.put, List.setIfInBounds_toArray, List.set_cons_zero, List.set_cons_succ]
            have HX6 : Hid (Blk w6 gx 25 #[.int .i64 oz, .slice Az lz.length cz]) := Lib.hid (HX.out.below HB6.out HX.out.lt)
            have HXR6 : Hid (RdP w6 w6.heap.size Az lz) := Lib.hid (rdP_up HXR HB6.out)
            have HY6 : Hid (RdT w6 w6.heap.size Ap lp) := Lib.hid (rdT_up HY HB6.out)
            have HL6 : Hid (LW wb g (60 * (k : Int) + 60) w6) := Lib.hid (HL.out.bel HB6.out)
            clear HX HXR HY HL HX0 HX1 HB6 Hve Hpv
            go_wp2
            go_loopw [14] (fun i wr => ∃ j : Nat, j ≤ lp.length ∧ i = .int .i64 j ∧ Below w6.heap.size w6 wr) (fun i _ => lp.length - (intOf i).toNat)
            case atStart => exact ⟨0, Nat.zero_le _, rfl, Below.refl _ _⟩
            case round =>
              obtain ⟨j, hj, rfl, hbj⟩ := hrel
              have HBj := Lib.hid hbj
              clear hbj
              by_cases hjn : j < lp.length
              · have hjl : j < lp.length := hjn
                obtain ⟨gy, oy, HyA, q0, q1, q2⟩ := shift_cells HY6 HBj.out hjl
                subst HyA
                obtain ⟨d, Hd⟩ : ∃ d, Hid (d = tA lp j) := ⟨_, Lib.hid rfl⟩
                obtain ⟨st, Hst⟩ : ∃ d, Hid (d = tB lp j) := ⟨_, Lib.hid rfl⟩
                obtain ⟨mi, Hmi⟩ : ∃ d, Hid (d = tC lp j) := ⟨_, Lib.hid rfl⟩
                obtain ⟨a, Ha⟩ : ∃ a, Hid (a = spA oz lz d st mi) := ⟨_, Lib.hid rfl⟩
                obtain ⟨b, Hb⟩ : ∃ a, Hid (a = spB oz lz d st mi) := ⟨_, Lib.hid rfl⟩
                obtain ⟨se, Hse⟩ : ∃ a, Hid (a = spE oz lz d st mi) := ⟨_, Lib.hid rfl⟩
                rw [← Hd.out] at q0
                rw [← Hst.out] at q1
                rw [← Hmi.out] at q2
                have HC0 := Lib.hid q0
                have HC1 := Lib.hid q1
                have HC2 := Lib.hid q2
                have HXj := Lib.hid (HX6.out.below HBj.out HX6.out.lt)
                clear q0 q1 q2
                go_upto_region 15 with (fail)
                refine plans15 (o := oz) (d := d) (st := st) (mi := mi) (x := a) (y := b) (e_ := se) 15 (by kernel_rfl) rfl rfl rfl rfl rfl rfl rfl rfl rfl rfl rfl rfl (show 105 ≤ 105 from by decide) (fun _ _ _ _ _ h => h) rfl rfl rfl hjn (HXj.out.cell 0) (HXj.out.cell 1) HC0.out HC1.out HC2.out (fun W hW => span_at (Lib.hid rfl) (rdP_up HXR6 (HBj.out.trans (hW.mono HBj.out.size))) HXL Ha Hb Hse) ?_
                intro z0 z1 z2 z3 z4 z5 z6 z7 z8 ga wa HBa HWa Hga
                simp only [Act.put, List.setIfInBounds_toArray, List.set_cons_zero, List.set_cons_succ]
                have HXa := Lib.hid (HXj.out.below HWa.out HXj.out.lt)
                have kc : ∀ {p : Addr} {v : Value}, Hid (wr.cell? p = some v) → Hid (wa.cell? p = some v) := fun {p} {v} h => Lib.hid ((HWa.out.cell (p := p) (World.block_lt_of_cell? wr _ h.out)).trans h.out)
                have HCa0 := kc HC0
                have HCa1 := kc HC1
                have HCa2 := kc HC2
                clear kc
                have HBw : Hid (Below w6.heap.size w6 wa) := Lib.hid (HBj.out.trans (HWa.out.mono HBj.out.size))
                clear HC0 HC1 HC2 HXj HWa HBj
                go_upto_region 16 with (fail)
                refine plans16 (o := oz) (d := d) (st := st) (mi := mi) (x := a) (y := b) (e_ := se) 16 (by kernel_rfl) rfl rfl rfl rfl rfl rfl rfl rfl rfl rfl rfl rfl (show 105 ≤ 105 from by decide) (fun _ _ _ _ _ h => h) rfl rfl rfl hjn (HXa.out.cell 0) (HXa.out.cell 1) HCa0.out HCa1.out HCa2.out (fun W hW => rspan_at (Lib.hid rfl) (rdP_up HXR6 (HBw.out.trans (hW.mono HBw.out.size))) HXL Ha Hb Hse) ?_
                intro z0 z1 z2 z3 z4 z5 z6 z7 z8 gb wc HBb HWb Hgb
                simp only [Act.put, List.setIfInBounds_toArray, List.set_cons_zero, List.set_cons_succ]
                have HBc : Hid (Below w6.heap.size w6 wc) := Lib.hid (HBw.out.trans (HWb.out.mono HBw.out.size))
                have HBac := Lib.hid (HBa.out.below HWb.out HBa.out.lt)
                have a0 : wc.cell? ⟨ga, 0, none⟩ = some (.int .i64 a) := by have := HBac.out.cell 0; simpa using this
                have a1 : wc.cell? ⟨ga, 1, none⟩ = some (.int .i64 b) := by have := HBac.out.cell 1; simpa using this
                have b0 : wc.cell? ⟨gb, 0, none⟩ = some (.int .i64 a) := by have := HBb.out.cell 0; simpa using this
                have b1 : wc.cell? ⟨gb, 1, none⟩ = some (.int .i64 b) := by have := HBb.out.cell 1; simpa using this
                have hei := run_eqIvSame
                clear HCa0 HCa1 HCa2 HXa HBw HWb HBa HBb Ha Hb Hse Hd Hst Hmi
                go_wp2
                go_roundw
                case rel => exact ⟨j + 1, by omega, by go_num, HBc.out⟩
                case measure => simp [intOf]; omega
              · have HLj : Hid (LW wb g (60 * ((k : Int) + 1)) wr) := Lib.hid ((HL6.out.bel HBj.out).more (by omega))
                clear HL6 HXR6 HY6 HX6 HBj
                go_wp2
                go_roundw
                case rel => exact ⟨k + 1, by omega, by go_num, by have := HLj.out; simpa using this⟩
                case measure => simp [intOf]; omega
          · have hD3 : decide (k = 3 ∧ lp.length ≤ 20 ∧ lz.length ≤ 20) = false := decide_eq_false h3
            rw [hD3]
            clear z0 z1
            obtain ⟨wt, Hwt⟩ : ∃ W, Hid (W = wx) := ⟨_, Lib.hid rfl⟩
            rw [← Hwt.out] at HX0 HXR0 HRow HLx ⊢
            have HX := HX0
            have HL : Hid (LW wb g (60 * (k : Int) + 60) wt) := Lib.hid (HLx.out.more (by omega))
            have HXR := HXR0
            have HY : Hid (RdT wt wt.heap.size A2 l2) := Lib.hid (own_rd3 HRow.out)
            have Hxn : Hid (l3.length = l3.length) := Lib.hid rfl
            have HXL : Hid (l3.length ≤ 9223372036854775807) := Lib.hid (by have := hx10.out; omega)
            have Hyn : Hid (l2.length = l2.length) := Lib.hid rfl
            have hyl : l2.length ≤ 9223372036854775807 := by omega
            have hyc : l2.length ≤ c2 := (own_cap HRow.out).1
            have hycm : c2 ≤ 9223372036854775807 := (own_cap HRow.out).2
            clear Hwt HX0 HXR0 HRow HLx
            -- here: HX (the box of x), (Lib.hid rfl), HXL, HXR, HY, (Lib.hid rfl), hyc, hycm, HL (LW .. wt)
            have x0 : wt.cell? ⟨gx, 0, none⟩ = some (.int .i64 o3) := by have := HX.out.cell 0; simpa using this
            have x1 : wt.cell? ⟨gx, 1, none⟩ = some (.slice A3 l3.length c3) := by have := HX.out.cell 1; simpa using this
            have HX0 := Lib.hid x0
            have HX1 := Lib.hid x1
            clear x0 x1
            obtain ⟨ve, Hve⟩ : ∃ v, Hid (v = vE o3 l3 l2) := ⟨_, Lib.hid rfl⟩
            obtain ⟨pv, Hpv⟩ : ∃ v, Hid (v = plV l2 (20454 + dd)) := ⟨_, Lib.hid rfl⟩
            go_upto_region 10 with (fail)
            refine plans10 (ve := ve) (pv := pv) 10 (by kernel_rfl) rfl rfl rfl rfl rfl rfl rfl rfl rfl rfl rfl rfl rfl rfl rfl rfl (show 105 ≤ 105 from by decide) (fun _ _ _ _ _ h => h) rfl rfl rfl HX0.out HX1.out (fun W hW => valid_at (Lib.hid rfl) (Lib.hid rfl) Hve (rdP_up HXR hW) HXL (rdT_up HY hW) hyl) (fun W hW => rvalid10_as (Lib.hid rfl) (Lib.hid rfl) Hve (rdP_up HXR hW) HXL (rdT_up HY hW) hyl) (fun W hW => planned_at (Lib.hid rfl) Hpv (rdT_up HY hW) hyl hyc hycm) (fun W hW => rplanned_at (Lib.hid rfl) Hpv (rdT_up HY hW) hyl) ?_
            intro z0 z1 z2 z3 z4 z5 z6 z7 z8 z9 z10 z11 z12 z13 z14 w6 HB6
            simp only [Act.put, List.setIfInBounds_toArray, List.set_cons_zero, List.set_cons_succ]
            have HX6 : Hid (Blk w6 gx 25 #[.int .i64 o3, .slice A3 l3.length c3]) := Lib.hid (HX.out.below HB6.out HX.out.lt)
            have HXR6 : Hid (RdP w6 w6.heap.size A3 l3) := Lib.hid (rdP_up HXR HB6.out)
            have HY6 : Hid (RdT w6 w6.heap.size A2 l2) := Lib.hid (rdT_up HY HB6.out)
            have HL6 : Hid (LW wb g (60 * (k : Int) + 60) w6) := Lib.hid (HL.out.bel HB6.out)
            clear HX HXR HY HL HX0 HX1 HB6 Hve Hpv
            go_wp2
            go_loopw [14] (fun i wr => ∃ j : Nat, j ≤ l2.length ∧ i = .int .i64 j ∧ Below w6.heap.size w6 wr) (fun i _ => l2.length - (intOf i).toNat)
            case atStart => exact ⟨0, Nat.zero_le _, rfl, Below.refl _ _⟩
            case round =>
              obtain ⟨j, hj, rfl, hbj⟩ := hrel
              have HBj := Lib.hid hbj
              clear hbj
              by_cases hjn : j < l2.length
              · have hjl : j < l2.length := hjn
                obtain ⟨gy, oy, HyA, q0, q1, q2⟩ := shift_cells HY6 HBj.out hjl
                subst HyA
                obtain ⟨d, Hd⟩ : ∃ d, Hid (d = tA l2 j) := ⟨_, Lib.hid rfl⟩
                obtain ⟨st, Hst⟩ : ∃ d, Hid (d = tB l2 j) := ⟨_, Lib.hid rfl⟩
                obtain ⟨mi, Hmi⟩ : ∃ d, Hid (d = tC l2 j) := ⟨_, Lib.hid rfl⟩
                obtain ⟨a, Ha⟩ : ∃ a, Hid (a = spA o3 l3 d st mi) := ⟨_, Lib.hid rfl⟩
                obtain ⟨b, Hb⟩ : ∃ a, Hid (a = spB o3 l3 d st mi) := ⟨_, Lib.hid rfl⟩
                obtain ⟨se, Hse⟩ : ∃ a, Hid (a = spE o3 l3 d st mi) := ⟨_, Lib.hid rfl⟩
                rw [← Hd.out] at q0
                rw [← Hst.out] at q1
                rw [← Hmi.out] at q2
                have HC0 := Lib.hid q0
                have HC1 := Lib.hid q1
                have HC2 := Lib.hid q2
                have HXj := Lib.hid (HX6.out.below HBj.out HX6.out.lt)
                clear q0 q1 q2
                go_upto_region 15 with (fail)
                refine plans15 (o := o3) (d := d) (st := st) (mi := mi) (x := a) (y := b) (e_ := se) 15 (by kernel_rfl) rfl rfl rfl rfl rfl rfl rfl rfl rfl rfl rfl rfl (show 105 ≤ 105 from by decide) (fun _ _ _ _ _ h => h) rfl rfl rfl hjn (HXj.out.cell 0) (HXj.out.cell 1) HC0.out HC1.out HC2.out (fun W hW => span_at (Lib.hid rfl) (rdP_up HXR6 (HBj.out.trans (hW.mono HBj.out.size))) HXL Ha Hb Hse) ?_
                intro z0 z1 z2 z3 z4 z5 z6 z7 z8 ga wa HBa HWa Hga
                simp only [Act.put, List.setIfInBounds_toArray, List.set_cons_zero, List.set_cons_succ]
                have HXa := Lib.hid (HXj.out.below HWa.out HXj.out.lt)
                have kc : ∀ {p : Addr} {v : Value}, Hid (wr.cell? p = some v) → Hid (wa.cell? p = some v) := fun {p} {v} h => Lib.hid ((HWa.out.cell (p := p) (World.block_lt_of_cell? wr _ h.out)).trans h.out)
                have HCa0 := kc HC0
                have HCa1 := kc HC1
                have HCa2 := kc HC2
                clear kc
                have HBw : Hid (Below w6.heap.size w6 wa) := Lib.hid (HBj.out.trans (HWa.out.mono HBj.out.size))
                clear HC0 HC1 HC2 HXj HWa HBj
                go_upto_region 16 with (fail)
                refine plans16 (o := o3) (d := d) (st := st) (mi := mi) (x := a) (y := b) (e_ := se) 16 (by kernel_rfl) rfl rfl rfl rfl rfl rfl rfl rfl rfl rfl rfl rfl (show 105 ≤ 105 from by decide) (fun _ _ _ _ _ h => h) rfl rfl rfl hjn (HXa.out.cell 0) (HXa.out.cell 1) HCa0.out HCa1.out HCa2.out (fun W hW => rspan_at (Lib.hid rfl) (rdP_up HXR6 (HBw.out.trans (hW.mono HBw.out.size))) HXL Ha Hb Hse) ?_
                intro z0 z1 z2 z3 z4 z5 z6 z7 z8 gb wc HBb HWb Hgb
                simp only [Act.put, List.setIfInBounds_toArray, List.set_cons_zero, List.set_cons_succ]
                have HBc : Hid (Below w6.heap.size w6 wc) := Lib.hid (HBw.out.trans (HWb.out.mono HBw.out.size))
                have HBac := Lib.hid (HBa.out.below HWb.out HBa.out.lt)
                have a0 : wc.cell? ⟨ga, 0, none⟩ = some (.int .i64 a) := by have := HBac.out.cell 0; simpa using this
                have a1 : wc.cell? ⟨ga, 1, none⟩ = some (.int .i64 b) := by have := HBac.out.cell 1; simpa using this
                have b0 : wc.cell? ⟨gb, 0, none⟩ = some (.int .i64 a) := by have := HBb.out.cell 0; simpa using this
                have b1 : wc.cell? ⟨gb, 1, none⟩ = some (.int .i64 b) := by have := HBb.out.cell 1; simpa using this
                have hei := run_eqIvSame
                clear HCa0 HCa1 HCa2 HXa HBw HWb HBa HBb Ha Hb Hse Hd Hst Hmi
                go_wp2
                go_roundw
                case rel => exact ⟨j + 1, by omega, by go_num, HBc.out⟩
                case measure => simp [intOf]; omega
              · have HLj : Hid (LW wb g (60 * ((k : Int) + 1)) wr) := Lib.hid ((HL6.out.bel HBj.out).more (by omega))
                clear HL6 HXR6 HY6 HX6 HBj
                go_wp2
                go_roundw
                case rel => exact ⟨k + 1, by omega, by go_num, by have := HLj.out; simpa using this⟩
                case measure => simp [intOf]; omega
      · have hvb : (v == 9) = false := by rw [beq_eq_false_iff_ne]; exact hv9
        go_upto_region 8 with (fail)
        obtain ⟨wx, Hwx⟩ : ∃ W, Hid (W = w6) := ⟨_, Lib.hid rfl⟩
        rw [← Hwx.out] at HX6 HL6 HRow6 HRg6 ⊢
        have HX0 := HX6
        have HLx : Hid (LW wb g (60 * (k : Int) + 53) wx) := Lib.hid (HL6.out.more (by omega))
        have HRow := HRow6
        have HXR0 := HRg6
        have hx10 : Hid (l.length ≤ 10) := Lib.hid (by omega)
        clear Hwx HX6 HL6 HRow6 HRg6 HNe
        -- here, at wx: HX0, Hxn0, hx10, HXR0, HRow, HLx
        have z0 : wx.cell? ⟨w.heap.size, 0, none⟩ = some (.int .i64 oz) := by have := (HBX.out.below HLx.out.below hgx.out).cell 0; simpa using this
        have z1 : wx.cell? ⟨w.heap.size, 1, none⟩ = some (.slice Az lz.length cz) := by have := (HBX.out.below HLx.out.below hgx.out).cell 1; simpa using this
        go_cut [52] (fun s wy => s = .bool (decide (k = 3 ∧ lp.length ≤ 20 ∧ lz.length ≤ 20)) ∧ wy = wx)
        case first =>
          by_cases e1 : k = 3
          · by_cases e2 : lp.length ≤ 20
            · by_cases e3 : lz.length ≤ 20
              · have hb1 : decide ((k : Int) = 3) = true := by rw [decide_eq_true_iff]; omega
                have hb2 : decide ((lp.length : Int) ≤ 20) = true := by rw [decide_eq_true_iff]; omega
                have hb3 : decide ((lz.length : Int) ≤ 20) = true := by rw [decide_eq_true_iff]; omega
                have hbb : ((k : Int) == 3) = true := by rw [beq_iff_eq]; omega
                have hD : Hid (decide (k = 3 ∧ lp.length ≤ 20 ∧ lz.length ≤ 20) = true) := Lib.hid (decide_eq_true ⟨e1, e2, e3⟩)
                go_wp2_with fail
                go_meet
                exact ⟨by rw [hD.out], rfl⟩
              · have hb1 : decide ((k : Int) = 3) = true := by rw [decide_eq_true_iff]; omega
                have hb2 : decide ((lp.length : Int) ≤ 20) = true := by rw [decide_eq_true_iff]; omega
                have hb3 : decide ((lz.length : Int) ≤ 20) = false := by rw [decide_eq_false_iff_not]; omega
                have hbb : ((k : Int) == 3) = true := by rw [beq_iff_eq]; omega
                have hD : Hid (decide (k = 3 ∧ lp.length ≤ 20 ∧ lz.length ≤ 20) = false) := Lib.hid (decide_eq_false (fun h => e3 h.2.2))
                go_wp2_with fail
                go_meet
                exact ⟨by rw [hD.out], rfl⟩
            · have hb1 : decide ((k : Int) = 3) = true := by rw [decide_eq_true_iff]; omega
              have hb2 : decide ((lp.length : Int) ≤ 20) = false := by rw [decide_eq_false_iff_not]; omega
              have hbb : ((k : Int) == 3) = true := by rw [beq_iff_eq]; omega
              have hD : Hid (decide (k = 3 ∧ lp.length ≤ 20 ∧ lz.length ≤ 20) = false) := Lib.hid (decide_eq_false (fun h => e2 h.2.1))
              go_wp2_with fail
              go_meet
              exact ⟨by rw [hD.out], rfl⟩
          · have hb1 : decide ((k : Int) = 3) = false := by rw [decide_eq_false_iff_not]; omega
            have hbb : ((k : Int) == 3) = false := by rw [beq_eq_false_iff_ne]; omega
            have hD : Hid (decide (k = 3 ∧ lp.length ≤ 20 ∧ lz.length ≤ 20) = false) := Lib.hid (decide_eq_false (fun h => e1 h.1))
            go_wp2_with fail
            go_meet
            exact ⟨by rw [hD.out], rfl⟩
        case rest =>
          obtain ⟨hs, hwc⟩ := hcut
          rw [hs, hwc]
          clear hs hwc
          by_cases h3 : k = 3 ∧ lp.length ≤ 20 ∧ lz.length ≤ 20
          · have hD3 : decide (k = 3 ∧ lp.length ≤ 20 ∧ lz.length ≤ 20) = true := decide_eq_true h3
            rw [hD3]
            have x0 : wx.cell? ⟨gx, 0, none⟩ = some (.int .i64 o) := by have := HX0.out.cell 0; simpa using this
            have x1 : wx.cell? ⟨gx, 1, none⟩ = some (.slice A l.length c) := by have := HX0.out.cell 1; simpa using this
            have xf0 : wx.frozen? ⟨gx, 0, none⟩ = false := HX0.out.frozen 0
            have xf1 : wx.frozen? ⟨gx, 1, none⟩ = false := HX0.out.frozen 1
            have hzp : ¬ w.heap.size = gx := by have := HGX.out; have := HLx.out.gb; have := hgx.out; omega
            have hzp2 : ¬ gx = w.heap.size := fun h => hzp h.symm
            go_upto_region 10 with (fail)
            clear hD3 x0 x1 xf0 xf1 z0 z1
            obtain ⟨wt, Hwt⟩ : ∃ W, Hid (W = (wx.setCell ⟨gx, 0, none⟩ (.int .i64 oz)).setCell ⟨gx, 1, none⟩ (.slice Az lz.length cz)) := ⟨_, Lib.hid rfl⟩
            rw [← Hwt.out]
            have HX : Hid (Blk wt gx 25 #[.int .i64 oz, .slice Az lz.length cz]) := Lib.hid (by rw [Hwt.out]; exact blk_two HX0.out)
            have HL : Hid (LW wb g (60 * (k : Int) + 60) wt) := Lib.hid (by rw [Hwt.out]; exact (HLx.out.more (by omega)).set2 HGX.out _ _)
            have HXR : Hid (RdP wt wt.heap.size Az lz) := Lib.hid (rdP_up HRZ HL.out.below)
            have HY : Hid (RdT wt wt.heap.size Ap lp) := Lib.hid (rdT_up HRP HL.out.below)
            have Hxn : Hid (lz.length = lz.length) := Lib.hid rfl
            have HXL : Hid (lz.length ≤ 9223372036854775807) := Lib.hid hlz
            have Hyn : Hid (lp.length = lp.length) := Lib.hid rfl
            have hyl := hlp
            have hyc := hpc
            have hycm := hpm
            clear Hwt HX0 HXR0 HRow HLx
            -- here: HX (the box of x), (Lib.hid rfl), HXL, HXR, HY, (Lib.hid rfl), hyc, hycm, HL (LW .. wt)
            have x0 : wt.cell? ⟨gx, 0, none⟩ = some (.int .i64 oz) := by have := HX.out.cell 0; simpa using this
            have x1 : wt.cell? ⟨gx, 1, none⟩ = some (.slice Az lz.length cz) := by have := HX.out.cell 1; simpa using this
            have HX0 := Lib.hid x0
            have HX1 := Lib.hid x1
            clear x0 x1
            obtain ⟨ve, Hve⟩ : ∃ v, Hid (v = vE oz lz lp) := ⟨_, Lib.hid rfl⟩
            obtain ⟨pv, Hpv⟩ : ∃ v, Hid (v = plV lp day0) := ⟨_, Lib.hid rfl⟩
            go_upto_region 10 with (fail)
            refine plans10 (ve := ve) (pv := pv) 10 (by kernel_rfl) rfl rfl rfl rfl rfl rfl rfl rfl rfl rfl rfl rfl rfl rfl rfl rfl (show 105 ≤ 105 from by decide) (fun _ _ _ _ _ h => h) rfl rfl rfl HX0.out HX1.out (fun W hW => valid_at (Lib.hid rfl) (Lib.hid rfl) Hve (rdP_up HXR hW) HXL (rdT_up HY hW) hyl) (fun W hW => rvalid10_as (Lib.hid rfl) (Lib.hid rfl) Hve (rdP_up HXR hW) HXL (rdT_up HY hW) hyl) (fun W hW => planned_at (Lib.hid rfl) Hpv (rdT_up HY hW) hyl hyc hycm) (fun W hW => rplanned_at (Lib.hid rfl) Hpv (rdT_up HY hW) hyl) ?_
            intro z0 z1 z2 z3 z4 z5 z6 z7 z8 z9 z10 z11 z12 z13 z14 w6 HB6
            simp only [Act.put, List.setIfInBounds_toArray, List.set_cons_zero, List.set_cons_succ]
            have HX6 : Hid (Blk w6 gx 25 #[.int .i64 oz, .slice Az lz.length cz]) := Lib.hid (HX.out.below HB6.out HX.out.lt)
            have HXR6 : Hid (RdP w6 w6.heap.size Az lz) := Lib.hid (rdP_up HXR HB6.out)
            have HY6 : Hid (RdT w6 w6.heap.size Ap lp) := Lib.hid (rdT_up HY HB6.out)
            have HL6 : Hid (LW wb g (60 * (k : Int) + 60) w6) := Lib.hid (HL.out.bel HB6.out)
            clear HX HXR HY HL HX0 HX1 HB6 Hve Hpv
            go_wp2
            go_loopw [14] (fun i wr => ∃ j : Nat, j ≤ lp.length ∧ i = .int .i64 j ∧ Below w6.heap.size w6 wr) (fun i _ => lp.length - (intOf i).toNat)
            case atStart => exact ⟨0, Nat.zero_le _, rfl, Below.refl _ _⟩
            case round =>
              obtain ⟨j, hj, rfl, hbj⟩ := hrel
              have HBj := Lib.hid hbj
              clear hbj
              by_cases hjn : j < lp.length
              · have hjl : j < lp.length := hjn
                obtain ⟨gy, oy, HyA, q0, q1, q2⟩ := shift_cells HY6 HBj.out hjl
                subst HyA
                obtain ⟨d, Hd⟩ : ∃ d, Hid (d = tA lp j) := ⟨_, Lib.hid rfl⟩
                obtain ⟨st, Hst⟩ : ∃ d, Hid (d = tB lp j) := ⟨_, Lib.hid rfl⟩
                obtain ⟨mi, Hmi⟩ : ∃ d, Hid (d = tC lp j) := ⟨_, Lib.hid rfl⟩
                obtain ⟨a, Ha⟩ : ∃ a, Hid (a = spA oz lz d st mi) := ⟨_, Lib.hid rfl⟩
                obtain ⟨b, Hb⟩ : ∃ a, Hid (a = spB oz lz d st mi) := ⟨_, Lib.hid rfl⟩
                obtain ⟨se, Hse⟩ : ∃ a, Hid (a = spE oz lz d st mi) := ⟨_, Lib.hid rfl⟩
                rw [← Hd.out] at q0
                rw [← Hst.out] at q1
                rw [← Hmi.out] at q2
                have HC0 := Lib.hid q0
                have HC1 := Lib.hid q1
                have HC2 := Lib.hid q2
                have HXj := Lib.hid (HX6.out.below HBj.out HX6.out.lt)
                clear q0 q1 q2
                go_upto_region 15 with (fail)
                refine plans15 (o := oz) (d := d) (st := st) (mi := mi) (x := a) (y := b) (e_ := se) 15 (by kernel_rfl) rfl rfl rfl rfl rfl rfl rfl rfl rfl rfl rfl rfl (show 105 ≤ 105 from by decide) (fun _ _ _ _ _ h => h) rfl rfl rfl hjn (HXj.out.cell 0) (HXj.out.cell 1) HC0.out HC1.out HC2.out (fun W hW => span_at (Lib.hid rfl) (rdP_up HXR6 (HBj.out.trans (hW.mono HBj.out.size))) HXL Ha Hb Hse) ?_
                intro z0 z1 z2 z3 z4 z5 z6 z7 z8 ga wa HBa HWa Hga
                simp only [Act.put, List.setIfInBounds_toArray, List.set_cons_zero, List.set_cons_succ]
                have HXa := Lib.hid (HXj.out.below HWa.out HXj.out.lt)
                have kc : ∀ {p : Addr} {v : Value}, Hid (wr.cell? p = some v) → Hid (wa.cell? p = some v) := fun {p} {v} h => Lib.hid ((HWa.out.cell (p := p) (World.block_lt_of_cell? wr _ h.out)).trans h.out)
                have HCa0 := kc HC0
                have HCa1 := kc HC1
                have HCa2 := kc HC2
                clear kc
                have HBw : Hid (Below w6.heap.size w6 wa) := Lib.hid (HBj.out.trans (HWa.out.mono HBj.out.size))
                clear HC0 HC1 HC2 HXj HWa HBj
                go_upto_region 16 with (fail)
                refine plans16 (o := oz) (d := d) (st := st) (mi := mi) (x := a) (y := b) (e_ := se) 16 (by kernel_rfl) rfl rfl rfl rfl rfl rfl rfl rfl rfl rfl rfl rfl (show 105 ≤ 105 from by decide) (fun _ _ _ _ _ h => h) rfl rfl rfl hjn (HXa.out.cell 0) (HXa.out.cell 1) HCa0.out HCa1.out HCa2.out (fun W hW => rspan_at (Lib.hid rfl) (rdP_up HXR6 (HBw.out.trans (hW.mono HBw.out.size))) HXL Ha Hb Hse) ?_
                intro z0 z1 z2 z3 z4 z5 z6 z7 z8 gb wc HBb HWb Hgb
                simp only [Act.put, List.setIfInBounds_toArray, List.set_cons_zero, List.set_cons_succ]
                have HBc : Hid (Below w6.heap.size w6 wc) := Lib.hid (HBw.out.trans (HWb.out.mono HBw.out.size))
                have HBac := Lib.hid (HBa.out.below HWb.out HBa.out.lt)
                have a0 : wc.cell? ⟨ga, 0, none⟩ = some (.int .i64 a) := by have := HBac.out.cell 0; simpa using this
                have a1 : wc.cell? ⟨ga, 1, none⟩ = some (.int .i64 b) := by have := HBac.out.cell 1; simpa using this
                have b0 : wc.cell? ⟨gb, 0, none⟩ = some (.int .i64 a) := by have := HBb.out.cell 0; simpa using this
                have b1 : wc.cell? ⟨gb, 1, none⟩ = some (.int .i64 b) := by have := HBb.out.cell 1; simpa using this
                have hei := run_eqIvSame
                clear HCa0 HCa1 HCa2 HXa HBw HWb HBa HBb Ha Hb Hse Hd Hst Hmi
                go_wp2
                go_roundw
                case rel => exact ⟨j + 1, by omega, by go_num, HBc.out⟩
                case measure => simp [intOf]; omega
              · have HLj : Hid (LW wb g (60 * ((k : Int) + 1)) wr) := Lib.hid ((HL6.out.bel HBj.out).more (by omega))
                clear HL6 HXR6 HY6 HX6 HBj
                go_wp2
                go_roundw
                case rel => exact ⟨k + 1, by omega, by go_num, by have := HLj.out; simpa using this⟩
                case measure => simp [intOf]; omega
          · have hD3 : decide (k = 3 ∧ lp.length ≤ 20 ∧ lz.length ≤ 20) = false := decide_eq_false h3
            rw [hD3]
            clear z0 z1
            obtain ⟨wt, Hwt⟩ : ∃ W, Hid (W = wx) := ⟨_, Lib.hid rfl⟩
            rw [← Hwt.out] at HX0 HXR0 HRow HLx ⊢
            have HX := HX0
            have HL : Hid (LW wb g (60 * (k : Int) + 60) wt) := Lib.hid (HLx.out.more (by omega))
            have HXR := HXR0
            have HY : Hid (RdT wt wt.heap.size A2 l2) := Lib.hid (own_rd3 HRow.out)
            have Hxn : Hid (l.length = l.length) := Lib.hid rfl
            have HXL : Hid (l.length ≤ 9223372036854775807) := Lib.hid (by have := hx10.out; omega)
            have Hyn : Hid (l2.length = l2.length) := Lib.hid rfl
            have hyl : l2.length ≤ 9223372036854775807 := by omega
            have hyc : l2.length ≤ c2 := (own_cap HRow.out).1
            have hycm : c2 ≤ 9223372036854775807 := (own_cap HRow.out).2
            clear Hwt HX0 HXR0 HRow HLx
            -- here: HX (the box of x), (Lib.hid rfl), HXL, HXR, HY, (Lib.hid rfl), hyc, hycm, HL (LW .. wt)
            have x0 : wt.cell? ⟨gx, 0, none⟩ = some (.int .i64 o) := by have := HX.out.cell 0; simpa using this
            have x1 : wt.cell? ⟨gx, 1, none⟩ = some (.slice A l.length c) := by have := HX.out.cell 1; simpa using this
            have HX0 := Lib.hid x0
            have HX1 := Lib.hid x1
            clear x0 x1
            obtain ⟨ve, Hve⟩ : ∃ v, Hid (v = vE o l l2) := ⟨_, Lib.hid rfl⟩
            obtain ⟨pv, Hpv⟩ : ∃ v, Hid (v = plV l2 (20454 + dd)) := ⟨_, Lib.hid rfl⟩
            go_upto_region 10 with (fail)
            refine plans10 (ve := ve) (pv := pv) 10 (by kernel_rfl) rfl rfl rfl rfl rfl rfl rfl rfl rfl rfl rfl rfl rfl rfl rfl rfl (show 105 ≤ 105 from by decide) (fun _ _ _ _ _ h => h) rfl rfl rfl HX0.out HX1.out (fun W hW => valid_at (Lib.hid rfl) (Lib.hid rfl) Hve (rdP_up HXR hW) HXL (rdT_up HY hW) hyl) (fun W hW => rvalid10_as (Lib.hid rfl) (Lib.hid rfl) Hve (rdP_up HXR hW) HXL (rdT_up HY hW) hyl) (fun W hW => planned_at (Lib.hid rfl) Hpv (rdT_up HY hW) hyl hyc hycm) (fun W hW => rplanned_at (Lib.hid rfl) Hpv (rdT_up HY hW) hyl) ?_
            intro z0 z1 z2 z3 z4 z5 z6 z7 z8 z9 z10 z11 z12 z13 z14 w6 HB6
            simp only [Act.put, List.setIfInBounds_toArray, List.set_cons_zero, List.set_cons_succ]
            have HX6 : Hid (Blk w6 gx 25 #[.int .i64 o, .slice A l.length c]) := Lib.hid (HX.out.below HB6.out HX.out.lt)
            have HXR6 : Hid (RdP w6 w6.heap.size A l) := Lib.hid (rdP_up HXR HB6.out)
            have HY6 : Hid (RdT w6 w6.heap.size A2 l2) := Lib.hid (rdT_up HY HB6.out)
            have HL6 : Hid (LW wb g (60 * (k : Int) + 60) w6) := Lib.hid (HL.out.bel HB6.out)
            clear HX HXR HY HL HX0 HX1 HB6 Hve Hpv
            go_wp2
            go_loopw [14] (fun i wr => ∃ j : Nat, j ≤ l2.length ∧ i = .int .i64 j ∧ Below w6.heap.size w6 wr) (fun i _ => l2.length - (intOf i).toNat)
            case atStart => exact ⟨0, Nat.zero_le _, rfl, Below.refl _ _⟩
            case round =>
              obtain ⟨j, hj, rfl, hbj⟩ := hrel
              have HBj := Lib.hid hbj
              clear hbj
              by_cases hjn : j < l2.length
              · have hjl : j < l2.length := hjn
                obtain ⟨gy, oy, HyA, q0, q1, q2⟩ := shift_cells HY6 HBj.out hjl
                subst HyA
                obtain ⟨d, Hd⟩ : ∃ d, Hid (d = tA l2 j) := ⟨_, Lib.hid rfl⟩
                obtain ⟨st, Hst⟩ : ∃ d, Hid (d = tB l2 j) := ⟨_, Lib.hid rfl⟩
                obtain ⟨mi, Hmi⟩ : ∃ d, Hid (d = tC l2 j) := ⟨_, Lib.hid rfl⟩
                obtain ⟨a, Ha⟩ : ∃ a, Hid (a = spA o l d st mi) := ⟨_, Lib.hid rfl⟩
                obtain ⟨b, Hb⟩ : ∃ a, Hid (a = spB o l d st mi) := ⟨_, Lib.hid rfl⟩
                obtain ⟨se, Hse⟩ : ∃ a, Hid (a = spE o l d st mi) := ⟨_, Lib.hid rfl⟩
                rw [← Hd.out] at q0
                rw [← Hst.out] at q1
                rw [← Hmi.out] at q2
                have HC0 := Lib.hid q0
                have HC1 := Lib.hid q1
                have HC2 := Lib.hid q2
                have HXj := Lib.hid (HX6.out.below HBj.out HX6.out.lt)
                clear q0 q1 q2
                go_upto_region 15 with (fail)
                refine plans15 (o := o) (d := d) (st := st) (mi := mi) (x := a) (y := b) (e_ := se) 15 (by kernel_rfl) rfl rfl rfl rfl rfl rfl rfl rfl rfl rfl rfl rfl (show 105 ≤ 105 from by decide) (fun _ _ _ _ _ h => h) rfl rfl rfl hjn (HXj.out.cell 0) (HXj.out.cell 1) HC0.out HC1.out HC2.out (fun W hW => span_at (Lib.hid rfl) (rdP_up HXR6 (HBj.out.trans (hW.mono HBj.out.size))) HXL Ha Hb Hse) ?_
                intro z0 z1 z2 z3 z4 z5 z6 z7 z8 ga wa HBa HWa Hga
                simp only [Act.put, List.setIfInBounds_toArray, List.set_cons_zero, List.set_cons_succ]
                have HXa := Lib.hid (HXj.out.below HWa.out HXj.out.lt)
                have kc : ∀ {p : Addr} {v : Value}, Hid (wr.cell? p = some v) → Hid (wa.cell? p = some v) := fun {p} {v} h => Lib.hid ((HWa.out.cell (p := p) (World.block_lt_of_cell? wr _ h.out)).trans h.out)
                have HCa0 := kc HC0
                have HCa1 := kc HC1
                have HCa2 := kc HC2
                clear kc
                have HBw : Hid (Below w6.heap.size w6 wa) := Lib.hid (HBj.out.trans (HWa.out.mono HBj.out.size))
                clear HC0 HC1 HC2 HXj HWa HBj
                go_upto_region 16 with (fail)
                refine plans16 (o := o) (d := d) (st := st) (mi := mi) (x := a) (y := b) (e_ := se) 16 (by kernel_rfl) rfl rfl rfl rfl rfl rfl rfl rfl rfl rfl rfl rfl (show 105 ≤ 105 from by decide) (fun _ _ _ _ _ h => h) rfl rfl rfl hjn (HXa.out.cell 0) (HXa.out.cell 1) HCa0.out HCa1.out HCa2.out (fun W hW => rspan_at (Lib.hid rfl) (rdP_up HXR6 (HBw.out.trans (hW.mono HBw.out.size))) HXL Ha Hb Hse) ?_
                intro z0 z1 z2 z3 z4 z5 z6 z7 z8 gb wc HBb HWb Hgb
                simp only [Act.put, List.setIfInBounds_toArray, List.set_cons_zero, List.set_cons_succ]
                have HBc : Hid (Below w6.heap.size w6 wc) := Lib.hid (HBw.out.trans (HWb.out.mono HBw.out.size))
                have HBac := Lib.hid (HBa.out.below HWb.out HBa.out.lt)
                have a0 : wc.cell? ⟨ga, 0, none⟩ = some (.int .i64 a) := by have := HBac.out.cell 0; simpa using this
                have a1 : wc.cell? ⟨ga, 1, none⟩ = some (.int .i64 b) := by have := HBac.out.cell 1; simpa using this
                have b0 : wc.cell? ⟨gb, 0, none⟩ = some (.int .i64 a) := by have := HBb.out.cell 0; simpa using this
                have b1 : wc.cell? ⟨gb, 1, none⟩ = some (.int .i64 b) := by have := HBb.out.cell 1; simpa using this
                have hei := run_eqIvSame
                clear HCa0 HCa1 HCa2 HXa HBw HWb HBa HBb Ha Hb Hse Hd Hst Hmi
                go_wp2
                go_roundw
                case rel => exact ⟨j + 1, by omega, by go_num, HBc.out⟩
                case measure => simp [intOf]; omega
              · have HLj : Hid (LW wb g (60 * ((k : Int) + 1)) wr) := Lib.hid ((HL6.out.bel HBj.out).more (by omega))
                clear HL6 HXR6 HY6 HX6 HBj
                go_wp2
                go_roundw
                case rel => exact ⟨k + 1, by omega, by go_num, by have := HLj.out; simpa using this⟩
                case measure => simp [intOf]; omega
    · have HW : Hid (Below w.heap.size w wr) := Lib.hid (HBW.out.trans (HLr.out.below.mono (Nat.le_of_lt hgx.out)))
      go_wp2_with fail
      refine (sane_any _).mono ?_
      rintro e x2 ⟨rfl, hb⟩
      have HW := Lib.hid (HW.out.trans (hb.mono HW.out.size))
      clear hb
      go_wp2
      go_ret
      exact ⟨rfl, HW.out⟩
end Go.Proofs.Ytagkdkkpgcolkaa
