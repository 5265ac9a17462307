/-
  Chapter 10: drawn regions of the reference's Assign. The memory is that of the given program; no conditions.
-/
import Derived.Test.YtagkdkkpgcolkaaDu3r
namespace Go.Proofs.Ytagkdkkpgcolkaa
open Go.RowKit
set_option linter.unusedVariables false
set_option linter.unusedSimpArgs false
theorem cfx40 (args : Array Value) (w : World) : (callFunc 40 args).run Try.prog w = .ok (.enter 40 args) w := by kernel_rfl
theorem cfx41 (args : Array Value) (w : World) : (callFunc 41 args).run Try.prog w = .ok (.enter 41 args) w := by kernel_rfl
theorem build55 (w : World) (s : Int) : (Instr.build 55 #[(0, .int .i64 s)]).run Try.prog w = .ok (.agg #[.int .i64 s, .int .i64 0, .slice none 0 0]) w := by kernel_rfl
section
variable {P : Program} {o : Oper} {a : Act} {w : World}
theorem x_build1 {t : TypeId} {x : Operand} {u v : Value} (ho : o.op = .build t #[(0, x)]) (hx : a.eval x = u) (hr : (Instr.build t #[(0, u)]).run P w = .ok v w) : (execOp a.eval o).run P w = .ok (.value v) w := by
  unfold execOp
  simp only [ho, List.map_toArray, List.map_cons, List.map_nil, hx, Sem.run_bind, hr, Sem.run_pure, Result.andThen_ok]
theorem x_call5 {f : FuncId} {x y z x' y' : Operand} {t0 t1 t2 t3 t4 : TypeId} {u v r u' v' : Value} (ho : o.op = .call { callee := .value (.func f), args := #[x, y, z, x', y'], argTypes := #[t0, t1, t2, t3, t4] }) (hx : a.eval x = u) (hy : a.eval y = v) (hz : a.eval z = r) (hx' : a.eval x' = u') (hy' : a.eval y' = v') (hf : (callFunc f #[u, v, r, u', v']).run P w = .ok (.enter f #[u, v, r, u', v']) w) : (execOp a.eval o).run P w = .ok (.enter f #[u, v, r, u', v']) w := by
  have hfun : a.eval (.func f) = .func (.func f) #[] #[] := rfl
  unfold execOp
  simp [ho, resolve, Deferred.ofValue, invoke, hfun, hx, hy, hz, hx', hy', hf]
end
theorem x_alloc55 {o : Oper} {a : Act} {w : World} (ho : o.op = .alloc 55) : (execOp a.eval o).run Try.prog w = .ok (.value (.pointer (some ⟨w.heap.size, 0, none⟩))) (w.alloc (.cells #[.int .i64 0, .int .i64 0, .slice none 0 0] 55)) := by
  have h : (execOp a.eval { o with op := .alloc 55 }).run Try.prog w = .ok (.value (.pointer (some ⟨w.heap.size, 0, none⟩))) (w.alloc (.cells #[.int .i64 0, .int .i64 0, .slice none 0 0] 55)) := by kernel_rfl
  rw [← ho] at h
  exact h
theorem store55 {w : World} {g : Nat} {x_ y_ : Int} {A_ : Option Addr} {n_ c_ : Nat} {x y z u v r : Value} (hx : x = .int .i64 x_) (hy : y = .int .i64 y_) (hz : z = .slice A_ n_ c_) (h : Blk w g 55 #[u, v, r]) : (storeVar 55 ⟨g, 0, none⟩ (.agg #[x, y, z])).run Try.prog w = .ok () (((w.setCell ⟨g, 0, none⟩ x).setCell ⟨g, 1, none⟩ y).setCell ⟨g, 2, none⟩ z) := by
  subst hx hy hz
  have hsz : (sizeOf 55).run Try.prog w = .ok 3 w := by kernel_rfl
  have hc : (Value.agg #[.int .i64 x_, .int .i64 y_, .slice A_ n_ c_]).cells = #[.int .i64 x_, .int .i64 y_, .slice A_ n_ c_] := rfl
  have c0 := h.cell 0
  have c1 := (h.set_ 0 (.int .i64 x_)).cell 1
  have c2 := ((h.set_ 0 (.int .i64 x_)).set_ 1 (.int .i64 y_)).cell 2
  have f0 := h.frozen 0
  have f1 := (h.set_ 0 (.int .i64 x_)).frozen 1
  have f2 := ((h.set_ 0 (.int .i64 x_)).set_ 1 (.int .i64 y_)).frozen 2
  simp at c0 c1 c2
  unfold storeVar
  rw [Sem.run_bind, hsz, Result.andThen_ok, hc]
  have ha : (⟨g, 0, none⟩ : Addr).add 0 = ⟨g, 0, none⟩ := rfl
  have hb : (⟨g, 0, none⟩ : Addr).add 1 = ⟨g, 1, none⟩ := rfl
  have hd : (⟨g, 0, none⟩ : Addr).add 2 = ⟨g, 2, none⟩ := rfl
  simp [storeCells, ha, hb, hd, c0, c1, c2, f0, f1, f2, go_sem]
theorem Bel.set3 {w W : World} (h : Bel w W) {g : Nat} (hg : w.heap.size ≤ g) (u v r : Value) : Bel w (((W.setCell ⟨g, 0, none⟩ u).setCell ⟨g, 1, none⟩ v).setCell ⟨g, 2, none⟩ r) := Below.setCell (p := ⟨g, 2, none⟩) (h.set2 hg u v) hg r
theorem blk55s {w : World} {g : Nat} {u v r : Value} {t : TypeId} (h : Blk w g t #[u, v, r]) (x y z : Value) : Blk (((w.setCell ⟨g, 0, none⟩ x).setCell ⟨g, 1, none⟩ y).setCell ⟨g, 2, none⟩ z) g t #[x, y, z] := by
  simpa using ((h.set_ 0 x).set_ 1 y).set_ 2 z
set_option maxHeartbeats 1600000 in
theorem ras_region13 {ops : Array Oper} {Q : Exit → Act → World → Prop} {a : Act} {w : World} (id : Nat) {y0 y1 y2 y3 y4 y5 y6 y7 y8 y9 y10 y11 y12 y13 : TypeId} {q0 q1 q2 q3 q4 q5 q6 q7 q8 q9 q10 q11 q12 q13 : String} {f0 f1 f2 f3 f4 f5 f6 f7 f8 f9 f10 f11 f12 f13 : Array Edge} (hok : regT ops (.cons 1 true (.cons 2 true (.cons 3 true (.cons 8 true (.cons 9 true (.cons 0 true (.cons 4 true (.cons 5 true (.cons 6 true (.cons 7 true (.fork 10 12 (.cons 11 true (.cons 12 false (.cons 13 false .nil))) (.cons 10 false (.cons 11 true (.cons 13 false .nil)))))))))))))) = true)
    (h0 : ops[0]? = some ⟨(some 50), .load 25 (.tmp 5), y0, q0, f0, none⟩) (h1 : ops[1]? = some ⟨(some 51), .move (.tmp 1), y1, q1, f1, none⟩) (h2 : ops[2]? = some ⟨(some 52), .move (.tmp 2), y2, q2, f2, none⟩) (h3 : ops[3]? = some ⟨(some 53), .move (.tmp 15), y3, q3, f3, none⟩) (h4 : ops[4]? = some ⟨(some 54), .indexAddr 45 (.tmp 52) (.tmp 53), y4, q4, f4, none⟩) (h5 : ops[5]? = some ⟨(some 55), .fieldAddr 58 (.tmp 54) 0, y5, q5, f5, none⟩) (h6 : ops[6]? = some ⟨(some 56), .fieldAddr 38 (.tmp 55) 0, y6, q6, f6, none⟩) (h7 : ops[7]? = some ⟨(some 57), .load 3 (.tmp 56), y7, q7, f7, none⟩) (h8 : ops[8]? = some ⟨(some 58), .move (.tmp 3), y8, q8, f8, none⟩) (h9 : ops[9]? = some ⟨(some 59), .move (.tmp 4), y9, q9, f9, none⟩) (h10 : ops[10]? = some ⟨(some 60), .call { callee := .value (.func 40), args := #[.tmp 50, .tmp 51, .tmp 57, .tmp 58, .tmp 59], argTypes := #[25, 26, 3, 3, 3] }, y10, q10, f10, none⟩) (h11 : ops[11]? = some ⟨(some 61), .build 55 #[(0, .tmp 60)], y11, q11, f11, none⟩) (h12 : ops[12]? = some ⟨(some 16), .alloc 55, y12, q12, f12, none⟩) (h13 : ops[13]? = some ⟨none, .store 55 (.tmp 16) (.tmp 61), y13, q13, f13, none⟩)
    (hsz : 143 ≤ a.tmps.size) (hQ : ∀ c a (d : Nat) v w, Q (.panic c) (a.put (some d) v) w → Q (.panic c) a w) {gz g off n c k pn pc : Nat} {o f early late bv : Int} {zA A : Option Addr} {zn zc : Nat} (e5 : a.eval (.tmp 5) = .pointer (some ⟨gz, 0, none⟩)) (e1 : a.eval (.tmp 1) = (.slice A n c)) (e2 : a.eval (.tmp 2) = (.slice (some ⟨g, off, none⟩) pn pc)) (e15 : a.eval (.tmp 15) = .int .i64 k) (e3 : a.eval (.tmp 3) = .int .i64 early) (e4 : a.eval (.tmp 4) = .int .i64 late)
    (hk : k < pn) (hz0 : w.cell? ⟨gz, 0, none⟩ = some (.int .i64 o)) (hz1 : w.cell? ⟨gz, 1, none⟩ = some (.slice zA zn zc)) (hf : w.cell? ⟨g, off + k * 3, none⟩ = some (.int .i64 f))
    (cBl : ∀ W, Bel w W → Calls Try.prog 40 #[(.agg #[.int .i64 o, .slice zA zn zc]), (.slice A n c), .int .i64 f, .int .i64 early, .int .i64 late] W (RetI bv W))
    (K : ∀ z0 z1 z2 z3 z4 z5 z6 z7 z8 z9 z10 z11 g16 w', Hid (Blk w' g16 55 #[.int .i64 bv, .int .i64 0, .slice none 0 0]) → Hid (Bel w w') → Hid (w.heap.size ≤ g16) → Q .normal (((((((((((((a.put (some 51) z0).put (some 52) z1).put (some 53) z2).put (some 58) z3).put (some 59) z4).put (some 50) z5).put (some 54) z6).put (some 55) z7).put (some 56) z8).put (some 57) z9).put (some 60) z10).put (some 61) z11).put (some 16) (.pointer (some ⟨g16, 0, none⟩))) w') : (Code.region id ops true).wp Try.prog Q a w := by
  have kc : ∀ {p : Addr} {v : Value}, w.cell? p = some v → ∀ W, Bel w.drew W → W.cell? p = some v := fun {p} {v} h W hW => (hW.cell (p := p) (World.block_lt_of_cell? w.drew _ h)).trans h
  have cz : ∀ W, Bel w.drew W → (loadVar 25 ⟨gz, 0, none⟩).run Try.prog W = .ok (.agg #[.int .i64 o, .slice zA zn zc]) W := fun W hW => load25 (kc hz0 W hW) (kc hz1 W hW)
  have hB0 := Bel.drew w
  refine wp_region_WN (by kernel_rfl) hok hQ ?_
  refine n_take (i := 1) (d := some 51) (v := (.slice A n c)) h1 (wanted_none rfl) rfl (fun W hW => x_move rfl e1) ?_
  refine n_take (i := 2) (d := some 52) (v := (.slice (some ⟨g, off, none⟩) pn pc)) h2 (wanted_none rfl) rfl (fun W hW => x_move rfl (pO (by decide) e2)) ?_
  refine n_take (i := 3) (d := some 53) (v := (.int .i64 k)) h3 (wanted_none rfl) rfl (fun W hW => x_move rfl (pO (by decide) (pO (by decide) e15))) ?_
  refine n_take (i := 8) (d := some 58) (v := (.int .i64 early)) h8 (wanted_none rfl) rfl (fun W hW => x_move rfl (pO (by decide) (pO (by decide) (pO (by decide) e3)))) ?_
  refine n_take (i := 9) (d := some 59) (v := (.int .i64 late)) h9 (wanted_none rfl) rfl (fun W hW => x_move rfl (pO (by decide) (pO (by decide) (pO (by decide) (pO (by decide) e4))))) ?_
  refine n_take (i := 0) (d := some 50) (v := (.agg #[.int .i64 o, .slice zA zn zc])) h0 (wanted_none rfl) rfl (fun W hW => exec_load rfl (pO (by decide) (pO (by decide) (pO (by decide) (pO (by decide) (pO (by decide) e5))))) (cz W hW)) ?_
  refine n_take (i := 4) (d := some 54) (v := (.pointer (some ⟨g, off + k * 3, none⟩))) h4 (wanted_none rfl) rfl (fun W hW => x_index rfl (pO (by decide) (pO (by decide) (pO (by decide) (pO (by decide) (pS (pZ hsz) (by decide)))))) (pO (by decide) (pO (by decide) (pO (by decide) (pS (pZ (pZ hsz)) (by decide))))) (run_idx45 W g off pn pc k hk)) ?_
  refine n_take (i := 5) (d := some 55) (v := (.pointer (some ⟨g, off + k * 3, none⟩))) h5 (wanted_none rfl) rfl (fun W hW => x_field rfl (pS (pZ (pZ (pZ (pZ (pZ (pZ hsz)))))) (by decide)) (field58 W g _)) ?_
  refine n_take (i := 6) (d := some 56) (v := (.pointer (some ⟨g, off + k * 3, none⟩))) h6 (wanted_none rfl) rfl (fun W hW => x_field rfl (pS (pZ (pZ (pZ (pZ (pZ (pZ (pZ hsz))))))) (by decide)) (field38 W g _)) ?_
  refine n_take (i := 7) (d := some 57) (v := (.int .i64 f)) h7 (wanted_none rfl) rfl (fun W hW => exec_load rfl (pS (pZ (pZ (pZ (pZ (pZ (pZ (pZ (pZ hsz)))))))) (by decide)) (load3 (kc hf W hW))) ?_
  refine n_fork (i := 10) (j := 12) (d := some 60) (d' := some 16) (v' := (.pointer (some ⟨w.drew.heap.size, 0, none⟩))) (w' := w.drew.alloc (.cells #[.int .i64 0, .int .i64 0, .slice none 0 0] 55)) h10 (wanted_none rfl) rfl (x_call5 rfl (pO (by decide) (pO (by decide) (pO (by decide) (pO (by decide) (pS (pZ (pZ (pZ (pZ (pZ hsz))))) (by decide)))))) (pO (by decide) (pO (by decide) (pO (by decide) (pO (by decide) (pO (by decide) (pO (by decide) (pO (by decide) (pO (by decide) (pO (by decide) (pS hsz (by decide))))))))))) (pS (pZ (pZ (pZ (pZ (pZ (pZ (pZ (pZ (pZ hsz))))))))) (by decide)) (pO (by decide) (pO (by decide) (pO (by decide) (pO (by decide) (pO (by decide) (pO (by decide) (pS (pZ (pZ (pZ hsz))) (by decide)))))))) (pO (by decide) (pO (by decide) (pO (by decide) (pO (by decide) (pO (by decide) (pS (pZ (pZ (pZ (pZ hsz)))) (by decide))))))) (cfx40 _ _)) h12 (wanted_none rfl) rfl (x_alloc55 rfl) ((Below.refl _ _).alloc (Nat.le_refl _) _) (Calls.mono (cBl _ hB0) ?_) ?_
  · rintro e w1 ⟨rfl, hb1⟩
    refine ⟨_, rfl, hb1, ?_⟩
    have hB1 := Bel.trans hB0 hb1
    refine n_take (i := 11) (d := some 61) (v := (.agg #[.int .i64 bv, .int .i64 0, .slice none 0 0])) h11 (wanted_none rfl) rfl (fun W hW => x_build1 rfl (pS (pZ (pZ (pZ (pZ (pZ (pZ (pZ (pZ (pZ (pZ hsz)))))))))) (by decide)) (build55 _ _)) ?_
    refine n_val (i := 12) (d := some 16) (v := (.pointer (some ⟨w1.heap.size, 0, none⟩))) (w' := w1.alloc (.cells #[.int .i64 0, .int .i64 0, .slice none 0 0] 55)) h12 (wanted_none rfl) rfl (x_alloc55 rfl) (Bel.alloc_ hb1 _) ?_
    refine n_unit (i := 13) (w' := ((((w1.alloc (.cells #[.int .i64 0, .int .i64 0, .slice none 0 0] 55)).setCell ⟨w1.heap.size, 0, none⟩ (.int .i64 bv)).setCell ⟨w1.heap.size, 1, none⟩ (.int .i64 0)).setCell ⟨w1.heap.size, 2, none⟩ (.slice none 0 0))) h13 (wanted_none rfl) rfl (exec_store rfl (pS (pZ (pZ (pZ (pZ (pZ (pZ (pZ (pZ (pZ (pZ (pZ (pZ hsz)))))))))))) (by decide)) (pO (by decide) (pS (pZ (pZ (pZ (pZ (pZ (pZ (pZ (pZ (pZ (pZ (pZ hsz))))))))))) (by decide))) (store55 rfl rfl rfl (Blk.new _ _ _))) (Bel.set3 (Bel.alloc_ hb1 _) (Below.size hb1) _ _ _) ?_
    refine n_done ?_
    exact K _ _ _ _ _ _ _ _ _ _ _ _ w1.heap.size _ (Lib.hid (blk55s (Blk.new _ _ _) _ _ _)) (Lib.hid (Bel.trans (Bel.drew w) (Bel.set3 (Bel.alloc_ hb1 _) (Below.size hb1) _ _ _))) (Lib.hid (Below.size hB1))
  · have hb0 : Bel w.drew (w.drew.alloc (.cells #[.int .i64 0, .int .i64 0, .slice none 0 0] 55)) := (Below.refl _ _).alloc (Nat.le_refl _) _
    refine n_call (i := 10) (d := some 60) h10 (wanted_none rfl) rfl (x_call5 rfl (pO (by decide) (pO (by decide) (pO (by decide) (pO (by decide) (pO (by decide) (pS (pZ (pZ (pZ (pZ (pZ hsz))))) (by decide))))))) (pO (by decide) (pO (by decide) (pO (by decide) (pO (by decide) (pO (by decide) (pO (by decide) (pO (by decide) (pO (by decide) (pO (by decide) (pO (by decide) (pS hsz (by decide)))))))))))) (pO (by decide) (pS (pZ (pZ (pZ (pZ (pZ (pZ (pZ (pZ (pZ hsz))))))))) (by decide))) (pO (by decide) (pO (by decide) (pO (by decide) (pO (by decide) (pO (by decide) (pO (by decide) (pO (by decide) (pS (pZ (pZ (pZ hsz))) (by decide))))))))) (pO (by decide) (pO (by decide) (pO (by decide) (pO (by decide) (pO (by decide) (pO (by decide) (pS (pZ (pZ (pZ (pZ hsz)))) (by decide)))))))) (cfx40 _ _)) (Calls.mono (cBl _ (Bel.trans hB0 hb0)) ?_)
    rintro e w1 ⟨rfl, hb1⟩
    refine ⟨_, rfl, Bel.trans hb0 hb1, ?_⟩
    have hb : Blk w1 w.drew.heap.size 55 #[.int .i64 0, .int .i64 0, .slice none 0 0] := (Blk.new w.drew 55 #[.int .i64 0, .int .i64 0, .slice none 0 0]).below hb1 (by simp)
    refine n_take (i := 11) (d := some 61) (v := (.agg #[.int .i64 bv, .int .i64 0, .slice none 0 0])) h11 (wanted_none rfl) rfl (fun W hW => x_build1 rfl (pS (pZ (pZ (pZ (pZ (pZ (pZ (pZ (pZ (pZ (pZ (pZ hsz))))))))))) (by decide)) (build55 _ _)) ?_
    refine n_unit (i := 13) (w' := (((w1.setCell ⟨w.drew.heap.size, 0, none⟩ (.int .i64 bv)).setCell ⟨w.drew.heap.size, 1, none⟩ (.int .i64 0)).setCell ⟨w.drew.heap.size, 2, none⟩ (.slice none 0 0))) h13 (wanted_none rfl) rfl (exec_store rfl (pO (by decide) (pO (by decide) (pS (pZ (pZ (pZ (pZ (pZ (pZ (pZ (pZ (pZ (pZ hsz)))))))))) (by decide)))) (pS (pZ (pZ (pZ (pZ (pZ (pZ (pZ (pZ (pZ (pZ (pZ (pZ hsz)))))))))))) (by decide)) (store55 rfl rfl rfl hb)) (Bel.set3 (Bel.trans hb0 hb1) (Nat.le_refl _) _ _ _) ?_
    refine n_done ?_
    rw [put_comm _ 16 60 _ _ (by decide), put_comm _ 16 61 _ _ (by decide)]
    exact K _ _ _ _ _ _ _ _ _ _ _ _ w.drew.heap.size _ (Lib.hid (blk55s hb _ _ _)) (Lib.hid (Bel.trans (Bel.drew w) (Bel.set3 (Bel.trans hb0 hb1) (Nat.le_refl _) _ _ _))) (Lib.hid (Nat.le_refl _))
theorem field55b (W : World) (p : Nat) : (Instr.fieldAt 55 (.pointer (some ⟨p, 0, none⟩)) 1).run Try.prog W = .ok (.pointer (some ⟨p, 1, none⟩)) W := by kernel_rfl
theorem store3 {w : World} {g i : Nat} {n : Int} {v : Value} (h : w.cell? ⟨g, i, none⟩ = some v) (hf : w.frozen? ⟨g, i, none⟩ = false) : (storeVar 3 ⟨g, i, none⟩ (.int .i64 n)).run Try.prog w = .ok () (w.setCell ⟨g, i, none⟩ (.int .i64 n)) := by
  have hsz : (sizeOf 3).run Try.prog w = .ok 1 w := by kernel_rfl
  have hc : (Value.int .i64 n).cells = #[.int .i64 n] := rfl
  unfold storeVar
  rw [Sem.run_bind, hsz, Result.andThen_ok, hc]
  have ha : (⟨g, i, none⟩ : Addr).add 0 = ⟨g, i, none⟩ := rfl
  simp [storeCells, ha, h, hf, go_sem]
set_option maxHeartbeats 1600000 in
theorem ras_region16 {ops : Array Oper} {Q : Exit → Act → World → Prop} {a : Act} {w0 w : World} (id : Nat) {y0 y1 y2 y3 y4 y5 y6 y7 y8 y9 y10 y11 y12 : TypeId} {q0 q1 q2 q3 q4 q5 q6 q7 q8 q9 q10 q11 q12 : String} {f0 f1 f2 f3 f4 f5 f6 f7 f8 f9 f10 f11 f12 : Array Edge} (hok : regT ops (.cons 1 true (.cons 2 true (.cons 0 true (.cons 3 true (.cons 4 true (.cons 5 true (.cons 6 true (.cons 7 false (.cons 8 true (.cons 9 true (.cons 10 true (.cons 11 true (.cons 12 false .nil))))))))))))) = true)
    (h0 : ops[0]? = some ⟨(some 73), .load 25 (.tmp 5), y0, q0, f0, none⟩) (h1 : ops[1]? = some ⟨(some 74), .move (.tmp 2), y1, q1, f1, none⟩) (h2 : ops[2]? = some ⟨(some 75), .move (.tmp 15), y2, q2, f2, none⟩) (h3 : ops[3]? = some ⟨(some 76), .indexAddr 45 (.tmp 74) (.tmp 75), y3, q3, f3, none⟩) (h4 : ops[4]? = some ⟨(some 77), .fieldAddr 58 (.tmp 76) 0, y4, q4, f4, none⟩) (h5 : ops[5]? = some ⟨(some 78), .fieldAddr 38 (.tmp 77) 0, y5, q5, f5, none⟩) (h6 : ops[6]? = some ⟨(some 79), .load 3 (.tmp 78), y6, q6, f6, none⟩) (h7 : ops[7]? = some ⟨(some 80), .call { callee := .value (.func 41), args := #[.tmp 73, .tmp 79], argTypes := #[25, 3] }, y7, q7, f7, none⟩) (h8 : ops[8]? = some ⟨(some 72), .move (.tmp 80), y8, q8, f8, none⟩) (h9 : ops[9]? = some ⟨(some 81), .extract (.tmp 72) 0, y9, q9, f9, none⟩) (h10 : ops[10]? = some ⟨(some 82), .extract (.tmp 72) 1, y10, q10, f10, none⟩) (h11 : ops[11]? = some ⟨(some 83), .fieldAddr 55 (.tmp 16) 1, y11, q11, f11, none⟩) (h12 : ops[12]? = some ⟨none, .store 3 (.tmp 83) (.tmp 81), y12, q12, f12, none⟩)
    (hsz : 143 ≤ a.tmps.size) (hQ : ∀ c a (d : Nat) v w, Q (.panic c) (a.put (some d) v) w → Q (.panic c) a w) {gz g off k pn pc g16 : Nat} {o f bv d : Int} {zA : Option Addr} {zn zc : Nat} (e5 : a.eval (.tmp 5) = .pointer (some ⟨gz, 0, none⟩)) (e2 : a.eval (.tmp 2) = (.slice (some ⟨g, off, none⟩) pn pc)) (e15 : a.eval (.tmp 15) = .int .i64 k) (e16 : a.eval (.tmp 16) = .pointer (some ⟨g16, 0, none⟩))
    (hk : k < pn) (hBw : Bel w0 w) (hg : w0.heap.size ≤ g16) (hK : Blk w g16 55 #[.int .i64 bv, .int .i64 0, .slice none 0 0]) (hz0 : w0.cell? ⟨gz, 0, none⟩ = some (.int .i64 o)) (hz1 : w0.cell? ⟨gz, 1, none⟩ = some (.slice zA zn zc)) (hf : w0.cell? ⟨g, off + k * 3, none⟩ = some (.int .i64 f))
    (cDy : ∀ W, Bel w W → Calls Try.prog 41 #[(.agg #[.int .i64 o, .slice zA zn zc]), .int .i64 f] W (RetII d 0 W))
    (K : ∀ z0 z1 z2 z3 z4 z5 z6 z7 z8 z9 z10 z11 w', Hid (Blk w' g16 55 #[.int .i64 bv, .int .i64 d, .slice none 0 0]) → Hid (Bel w0 w') → Q .normal ((((((((((((a.put (some 74) z0).put (some 75) z1).put (some 73) z2).put (some 76) z3).put (some 77) z4).put (some 78) z5).put (some 79) z6).put (some 80) z7).put (some 72) z8).put (some 81) z9).put (some 82) z10).put (some 83) z11) w') : (Code.region id ops true).wp Try.prog Q a w := by
  have hB0 := Bel.drew w
  have hB : Bel w0 w.drew := Bel.trans hBw hB0
  have kc : ∀ {p : Addr} {v : Value}, w0.cell? p = some v → ∀ W, Bel w0 W → W.cell? p = some v := fun {p} {v} h W hW => (hW.cell (p := p) (World.block_lt_of_cell? w0 _ h)).trans h
  have cz : ∀ W, Bel w0 W → (loadVar 25 ⟨gz, 0, none⟩).run Try.prog W = .ok (.agg #[.int .i64 o, .slice zA zn zc]) W := fun W hW => load25 (kc hz0 W hW) (kc hz1 W hW)
  refine wp_region_WN0 (by kernel_rfl) hok hQ hB ?_
  refine n_take (i := 1) (d := some 74) (v := (.slice (some ⟨g, off, none⟩) pn pc)) h1 (wanted_none rfl) rfl (fun W hW => x_move rfl e2) ?_
  refine n_take (i := 2) (d := some 75) (v := (.int .i64 k)) h2 (wanted_none rfl) rfl (fun W hW => x_move rfl (pO (by decide) e15)) ?_
  refine n_take (i := 0) (d := some 73) (v := (.agg #[.int .i64 o, .slice zA zn zc])) h0 (wanted_none rfl) rfl (fun W hW => exec_load rfl (pO (by decide) (pO (by decide) e5)) (cz W hW)) ?_
  refine n_take (i := 3) (d := some 76) (v := (.pointer (some ⟨g, off + k * 3, none⟩))) h3 (wanted_none rfl) rfl (fun W hW => x_index rfl (pO (by decide) (pO (by decide) (pS hsz (by decide)))) (pO (by decide) (pS (pZ hsz) (by decide))) (run_idx45 W g off pn pc k hk)) ?_
  refine n_take (i := 4) (d := some 77) (v := (.pointer (some ⟨g, off + k * 3, none⟩))) h4 (wanted_none rfl) rfl (fun W hW => x_field rfl (pS (pZ (pZ (pZ hsz))) (by decide)) (field58 W g _)) ?_
  refine n_take (i := 5) (d := some 78) (v := (.pointer (some ⟨g, off + k * 3, none⟩))) h5 (wanted_none rfl) rfl (fun W hW => x_field rfl (pS (pZ (pZ (pZ (pZ hsz)))) (by decide)) (field38 W g _)) ?_
  refine n_take (i := 6) (d := some 79) (v := (.int .i64 f)) h6 (wanted_none rfl) rfl (fun W hW => exec_load rfl (pS (pZ (pZ (pZ (pZ (pZ hsz))))) (by decide)) (load3 (kc hf W hW))) ?_
  refine n_call (i := 7) (d := some 80) h7 (wanted_none rfl) rfl (x_call2 rfl (pO (by decide) (pO (by decide) (pO (by decide) (pO (by decide) (pS (pZ (pZ hsz)) (by decide)))))) (pS (pZ (pZ (pZ (pZ (pZ (pZ hsz)))))) (by decide)) (cfx41 _ _)) (Calls.mono (cDy _ hB0) ?_)
  rintro e w1 ⟨rfl, hb1⟩
  refine ⟨_, rfl, Bel.trans hB hb1, ?_⟩
  have hB1 := Bel.trans hB hb1
  have hK1 : Blk w1 g16 55 #[.int .i64 bv, .int .i64 0, .slice none 0 0] := Blk.below (show Blk w.drew g16 55 #[.int .i64 bv, .int .i64 0, .slice none 0 0] from hK) hb1 hK.lt
  refine n_take (i := 8) (d := some 72) (v := (.tuple #[(.int .i64 d), (.int .i64 0)])) h8 (wanted_none rfl) rfl (fun W hW => x_move rfl (pS (pZ (pZ (pZ (pZ (pZ (pZ (pZ hsz))))))) (by decide))) ?_
  refine n_take (i := 9) (d := some 81) (v := (.int .i64 d)) h9 (wanted_none rfl) rfl (fun W hW => x_extract rfl (pS (pZ (pZ (pZ (pZ (pZ (pZ (pZ (pZ hsz)))))))) (by decide)) rfl) ?_
  refine n_take (i := 10) (d := some 82) (v := (.int .i64 0)) h10 (wanted_none rfl) rfl (fun W hW => x_extract rfl (pO (by decide) (pS (pZ (pZ (pZ (pZ (pZ (pZ (pZ (pZ hsz)))))))) (by decide))) rfl) ?_
  refine n_take (i := 11) (d := some 83) (v := (.pointer (some ⟨g16, 1, none⟩))) h11 (wanted_none rfl) rfl (fun W hW => x_field rfl (pO (by decide) (pO (by decide) (pO (by decide) (pO (by decide) (pO (by decide) (pO (by decide) (pO (by decide) (pO (by decide) (pO (by decide) (pO (by decide) (pO (by decide) e16))))))))))) (field55b W g16)) ?_
  refine n_unit (i := 12) (w' := w1.setCell ⟨g16, 1, none⟩ (.int .i64 d)) h12 (wanted_none rfl) rfl (exec_store rfl (pS (pZ (pZ (pZ (pZ (pZ (pZ (pZ (pZ (pZ (pZ (pZ hsz))))))))))) (by decide)) (pO (by decide) (pO (by decide) (pS (pZ (pZ (pZ (pZ (pZ (pZ (pZ (pZ (pZ hsz))))))))) (by decide)))) (store3 (by have := hK1.cell 1; simpa using this) (hK1.frozen 1))) (Below.setCell (p := ⟨g16, 1, none⟩) hB1 hg _) ?_
  refine n_done ?_
  exact K _ _ _ _ _ _ _ _ _ _ _ _ _ (Lib.hid (by simpa using hK1.set_ 1 (.int .i64 d))) (Lib.hid (Below.setCell (p := ⟨g16, 1, none⟩) hB1 hg _))
end Go.Proofs.Ytagkdkkpgcolkaa
