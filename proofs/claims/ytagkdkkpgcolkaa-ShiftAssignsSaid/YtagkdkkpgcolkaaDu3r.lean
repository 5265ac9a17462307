/-
  Chapter 10: the drawn regions that append a presence to a duty, of both packages. The memory is that of the given program; no conditions.
-/
import Derived.Test.YtagkdkkpgcolkaaDu2
import Derived.Test.YtagkdkkpgcolkaaRegM
namespace Go.Proofs.Ytagkdkkpgcolkaa
open Go.RowKit
set_option linter.unusedVariables false
set_option linter.unusedSimpArgs false
theorem run_one45 (w : World) (u v x : Value) : (Instr.buildSlice 45 1 #[(0, .agg #[u, v, x])]).run Try.prog w = .ok (.slice (some ⟨w.heap.size, 0, none⟩) 1 1) (w.alloc (.cells #[u, v, x] 58)) := by kernel_rfl
theorem field55 (W : World) (p i : Nat) : (Instr.fieldAt 55 (.pointer (some ⟨p, i, none⟩)) 2).run Try.prog W = .ok (.pointer (some ⟨p, i + 2, none⟩)) W := by kernel_rfl
theorem run_idx49 (w : World) (g n c i : Nat) (hi : i < n) : (Instr.indexAt 49 (.slice (some ⟨g, 0, none⟩) n c) (.int .i64 i)).run Try.prog w = .ok (.pointer (some ⟨g, i * 3, none⟩)) w := by
  have hu : Try.prog.underlying 49 = some (.slice 55) := by kernel_rfl
  have hsz : (sizeOf 55).run Try.prog w = .ok 3 w := by kernel_rfl
  have h1 : (i : Int) < (n : Int) := by omega
  simp [Instr.indexAt, go_sem, hu, hsz, h1, Go.WideShapes.add_plain]
  intro h; omega
theorem load45 {w : World} {g i : Nat} {A : Option Addr} {n c : Nat} (h : w.cell? ⟨g, i, none⟩ = some (.slice A n c)) : (loadVar 45 ⟨g, i, none⟩).run Try.prog w = .ok (.slice A n c) w := by
  have hagg : (isAgg 45).run Try.prog w = .ok false w := by kernel_rfl
  unfold loadVar
  rw [Sem.run_bind, hagg, Result.andThen_ok]
  simp [h]
theorem store45 {w : World} {g i : Nat} {A : Option Addr} {n c : Nat} {v : Value} (h : w.cell? ⟨g, i, none⟩ = some v) (hf : w.frozen? ⟨g, i, none⟩ = false) : (storeVar 45 ⟨g, i, none⟩ (.slice A n c)).run Try.prog w = .ok () (w.setCell ⟨g, i, none⟩ (.slice A n c)) := by
  have hsz : (sizeOf 45).run Try.prog w = .ok 1 w := by kernel_rfl
  have hc : (Value.slice A n c).cells = #[.slice A n c] := rfl
  unfold storeVar
  rw [Sem.run_bind, hsz, Result.andThen_ok, hc]
  have ha : (⟨g, i, none⟩ : Addr).add 0 = ⟨g, i, none⟩ := rfl
  simp [storeCells, ha, h, hf, go_sem]
set_option maxHeartbeats 1600000 in
theorem dadd_region {ops : Array Oper} {Q : Exit → Act → World → Prop} {a : Act} {w : World} (id : Nat) {y0 y1 y2 y3 y4 y5 y6 y7 y8 y10 y11 y12 : TypeId} {q0 q1 q2 q3 q4 q5 q6 q7 q8 q9 q10 q11 q12 : String} {f0 f1 f2 f3 f4 f5 f6 f7 f8 f9 f10 f11 f12 : Array Edge} (hok : regG ops 9 [(0, 2), (1, 2), (2, 2), (3, 2), (4, 2), (5, 2), (6, 0), (7, 0), (8, 1), (9, 1), (10, 1), (11, 1), (12, 1)] = true) (hlt : 9 < ops.size)
    (h0 : ops[0]? = some ⟨(some 112), .move (.tmp 16), y0, q0, f0, none⟩) (h1 : ops[1]? = some ⟨(some 113), .move (.tmp 20), y1, q1, f1, none⟩) (h2 : ops[2]? = some ⟨(some 114), .move (.tmp 16), y2, q2, f2, none⟩) (h3 : ops[3]? = some ⟨(some 115), .move (.tmp 20), y3, q3, f3, none⟩) (h4 : ops[4]? = some ⟨(some 116), .indexAddr 49 (.tmp 114) (.tmp 115), y4, q4, f4, none⟩) (h5 : ops[5]? = some ⟨(some 117), .fieldAddr 55 (.tmp 116) 2, y5, q5, f5, none⟩) (h6 : ops[6]? = some ⟨(some 118), .load 45 (.tmp 117), y6, q6, f6, none⟩) (h7 : ops[7]? = some ⟨(some 119), .load 58 (.tmp 18), y7, q7, f7, none⟩) (h8 : ops[8]? = some ⟨(some 120), .buildSlice 45 1 #[(0, .tmp 119)], y8, q8, f8, none⟩) (h9 : ops[9]? = some ⟨(some 121), .call { callee := .builtin .append, args := #[.tmp 118, .tmp 120], argTypes := #[45, 45] }, 45, q9, f9, none⟩) (h10 : ops[10]? = some ⟨(some 122), .indexAddr 49 (.tmp 112) (.tmp 113), y10, q10, f10, none⟩) (h11 : ops[11]? = some ⟨(some 123), .fieldAddr 55 (.tmp 122) 2, y11, q11, f11, none⟩) (h12 : ops[12]? = some ⟨none, .store 45 (.tmp 123) (.tmp 121), y12, q12, f12, none⟩)
    (hsz : 126 ≤ a.tmps.size) (hQ : ∀ c a (d : Nat) v w, Q (.panic c) (a.put (some d) v) w → Q (.panic c) a w) {base N gD n c i gp m cb li : Nat} {ds : List Du} {ms : List M3} {f t : Int} {A : Option Addr} {bs : List (Int × Int)} (eD : a.eval (.tmp 16) = (.slice (some ⟨gD, 0, none⟩) n c)) (eI : a.eval (.tmp 20) = (.int .i64 i)) (eP : a.eval (.tmp 18) = (.pointer (some ⟨gp, 0, none⟩)))
    (h : DuO w base N (.slice (some ⟨gD, 0, none⟩) n c) ds ms) (hi : i < ds.length) (hn : n = ds.length) (hN : N ≤ w.heap.size) (hbs : base ≤ w.heap.size) (hm : m = bs.length) (hb : w.ownsRow base 38 2 (.slice A m cb) m (flat2 bs)) (hl : (uP ds i).length ≤ 2000) (hli : li = (uP ds i).length)
    (hp0 : w.cell? ⟨gp, 0, none⟩ = some (.int .i64 f)) (hp1 : w.cell? ⟨gp, 0 + 1, none⟩ = some (.int .i64 t)) (hp2 : w.cell? ⟨gp, 0 + 2, none⟩ = some (.slice A m cb))
    (K : ∀ z0 z1 z2 z3 z4 z5 z6 z7 z8 z9 z10 z11 w', Hid (∃ ms', DuO w' base w'.heap.size (.slice (some ⟨gD, 0, none⟩) n c) (ds.modify i (dTo (f, t, bs))) ms') → Hid (Chg (fun g => base ≤ g) w w') → Q .normal ((((((((((((a.put (some 112) z0).put (some 113) z1).put (some 114) z2).put (some 115) z3).put (some 116) z4).put (some 117) z5).put (some 118) z6).put (some 119) z7).put (some 120) z8).put (some 121) z9).put (some 122) z10).put (some 123) z11) w') : (Code.region id ops true).wp Try.prog Q a w := by
  subst hli
  have hB0 := Bel.drew w
  obtain ⟨Ai, ci, hcell, hgD, A9, c9, w4, g9, dd, df, gC, gK⟩ := dadd_run (f := f) (t := t) (h.below hB0 (Nat.le_refl _)) hi hn (show N ≤ w.drew.heap.size from hN) (show base ≤ w.drew.heap.size from hbs) hm (show w.drew.ownsRow base 38 2 (.slice A m cb) m (flat2 bs) from hb) hl
  obtain ⟨li, hli⟩ : ∃ li, li = (uP ds i).length := ⟨_, rfl⟩
  rw [← hli] at hcell g9 dd gC gK
  have hin : i < n := by rw [hn]; exact hi
  have kc : ∀ {p : Addr} {v : Value}, w.cell? p = some v → ∀ W, Bel w.drew W → W.cell? p = some v := fun {p} {v} h W hW => (hW.cell (p := p) (World.block_lt_of_cell? w.drew _ h)).trans h
  have cD : ∀ W, Bel w.drew W → W.cell? ⟨gD, i * 3 + 2, none⟩ = some (.slice Ai li ci) := fun W hW => (hW.cell (p := ⟨gD, i * 3 + 2, none⟩) hgD).trans hcell
  have gst := store45 (A := A9) (n := li + 1) (c := c9) dd df
  refine wp_region_WG (by kernel_rfl) hok hQ ?_
  refine g_free (i := 0) (d := some 112) (v := (.slice (some ⟨gD, 0, none⟩) n c)) h0 (wanted_none rfl) rfl (fun W => x_move rfl eD) ?_
  refine g_free (i := 1) (d := some 113) (v := (.int .i64 i)) h1 (wanted_none rfl) rfl (fun W => x_move rfl (pO (by decide) eI)) ?_
  refine g_free (i := 2) (d := some 114) (v := (.slice (some ⟨gD, 0, none⟩) n c)) h2 (wanted_none rfl) rfl (fun W => x_move rfl (pO (by decide) (pO (by decide) eD))) ?_
  refine g_free (i := 3) (d := some 115) (v := (.int .i64 i)) h3 (wanted_none rfl) rfl (fun W => x_move rfl (pO (by decide) (pO (by decide) (pO (by decide) eI)))) ?_
  refine g_free (i := 4) (d := some 116) (v := (.pointer (some ⟨gD, i * 3, none⟩))) h4 (wanted_none rfl) rfl (fun W => x_index rfl (pO (by decide) (pS (pZ (pZ hsz)) (by decide))) (pS (pZ (pZ (pZ hsz))) (by decide)) (run_idx49 W gD n c i hin)) ?_
  refine g_free (i := 5) (d := some 117) (v := (.pointer (some ⟨gD, i * 3 + 2, none⟩))) h5 (wanted_none rfl) rfl (fun W => x_field rfl (pS (pZ (pZ (pZ (pZ hsz)))) (by decide)) (field55 W gD _)) ?_
  refine g_take (i := 6) (d := some 118) (v := (.slice Ai li ci)) h6 (wanted_none rfl) rfl (fun W hW => exec_load rfl (pS (pZ (pZ (pZ (pZ (pZ hsz))))) (by decide)) (load45 (cD W hW))) ?_
  refine g_take (i := 7) (d := some 119) (v := (.agg #[.int .i64 f, .int .i64 t, .slice A m cb])) h7 (wanted_none rfl) rfl (fun W hW => exec_load rfl (pO (by decide) (pO (by decide) (pO (by decide) (pO (by decide) (pO (by decide) (pO (by decide) (pO (by decide) eP))))))) (load58 (kc hp0 W hW) (kc hp1 W hW) (kc hp2 W hW))) ?_
  refine g_val (i := 8) (d := some 120) (v := (.slice (some ⟨w.drew.heap.size, 0, none⟩) 1 1)) (w' := w.drew.alloc (.cells #[.int .i64 f, .int .i64 t, .slice A m cb] 58)) h8 rfl (wanted_none rfl) rfl (exec_buildSlice rfl (pS (pZ (pZ (pZ (pZ (pZ (pZ (pZ hsz))))))) (by decide)) (run_one45 _ _ _ _)) ((Below.refl _ _).alloc (Nat.le_refl _) _) ?_
  refine g_late (d := some 121) (v := (.slice A9 (li + 1) c9)) (w' := w4) h9 (wanted_none rfl) rfl (exec_append rfl (pO (by decide) (pO (by decide) (pS (pZ (pZ (pZ (pZ (pZ (pZ hsz)))))) (by decide)))) (pS (pZ (pZ (pZ (pZ (pZ (pZ (pZ (pZ hsz)))))))) (by decide)) g9) hlt ?_
  refine f_one (i := 10) (d := some 122) (v := (.pointer (some ⟨gD, i * 3, none⟩))) h10 (wanted_none rfl) rfl (x_index rfl (pO (by decide) (pO (by decide) (pO (by decide) (pO (by decide) (pO (by decide) (pO (by decide) (pO (by decide) (pO (by decide) (pO (by decide) (pS hsz (by decide))))))))))) (pO (by decide) (pO (by decide) (pO (by decide) (pO (by decide) (pO (by decide) (pO (by decide) (pO (by decide) (pO (by decide) (pS (pZ hsz) (by decide)))))))))) (run_idx49 w4 gD n c i hin)) ?_
  refine f_one (i := 11) (d := some 123) (v := (.pointer (some ⟨gD, i * 3 + 2, none⟩))) h11 (wanted_none rfl) rfl (x_field rfl (pS (pZ (pZ (pZ (pZ (pZ (pZ (pZ (pZ (pZ (pZ hsz)))))))))) (by decide)) (field55 _ gD _)) ?_
  refine f_unit (i := 12) (w' := w4.setCell ⟨gD, i * 3 + 2, none⟩ (.slice A9 (li + 1) c9)) h12 (wanted_none rfl) rfl (exec_store rfl (pS (pZ (pZ (pZ (pZ (pZ (pZ (pZ (pZ (pZ (pZ (pZ hsz))))))))))) (by decide)) (pO (by decide) (pO (by decide) (pS (pZ (pZ (pZ (pZ (pZ (pZ (pZ (pZ (pZ hsz))))))))) (by decide)))) gst) ?_
  refine f_done ?_
  exact K _ _ _ _ _ _ _ _ _ _ _ _ _ (Lib.hid ⟨_, gC.mono (by simp)⟩) (Lib.hid (((Chg.refl _ w).drew).trans gK (fun _ _ h => h)))
set_option maxHeartbeats 1600000 in
theorem rdadd_region {ops : Array Oper} {Q : Exit → Act → World → Prop} {a : Act} {w : World} (id : Nat) {y0 y1 y2 y3 y4 y5 y6 y7 y8 y10 y11 y12 : TypeId} {q0 q1 q2 q3 q4 q5 q6 q7 q8 q9 q10 q11 q12 : String} {f0 f1 f2 f3 f4 f5 f6 f7 f8 f9 f10 f11 f12 : Array Edge} (hok : regG ops 9 [(0, 2), (1, 2), (2, 2), (3, 2), (4, 2), (5, 2), (6, 0), (7, 0), (8, 1), (9, 1), (10, 1), (11, 1), (12, 1)] = true) (hlt : 9 < ops.size)
    (h0 : ops[0]? = some ⟨(some 130), .move (.tmp 14), y0, q0, f0, none⟩) (h1 : ops[1]? = some ⟨(some 131), .move (.tmp 17), y1, q1, f1, none⟩) (h2 : ops[2]? = some ⟨(some 132), .move (.tmp 14), y2, q2, f2, none⟩) (h3 : ops[3]? = some ⟨(some 133), .move (.tmp 17), y3, q3, f3, none⟩) (h4 : ops[4]? = some ⟨(some 134), .indexAddr 49 (.tmp 132) (.tmp 133), y4, q4, f4, none⟩) (h5 : ops[5]? = some ⟨(some 135), .fieldAddr 55 (.tmp 134) 2, y5, q5, f5, none⟩) (h6 : ops[6]? = some ⟨(some 136), .load 45 (.tmp 135), y6, q6, f6, none⟩) (h7 : ops[7]? = some ⟨(some 137), .load 58 (.tmp 18), y7, q7, f7, none⟩) (h8 : ops[8]? = some ⟨(some 138), .buildSlice 45 1 #[(0, .tmp 137)], y8, q8, f8, none⟩) (h9 : ops[9]? = some ⟨(some 139), .call { callee := .builtin .append, args := #[.tmp 136, .tmp 138], argTypes := #[45, 45] }, 45, q9, f9, none⟩) (h10 : ops[10]? = some ⟨(some 140), .indexAddr 49 (.tmp 130) (.tmp 131), y10, q10, f10, none⟩) (h11 : ops[11]? = some ⟨(some 141), .fieldAddr 55 (.tmp 140) 2, y11, q11, f11, none⟩) (h12 : ops[12]? = some ⟨none, .store 45 (.tmp 141) (.tmp 139), y12, q12, f12, none⟩)
    (hsz : 143 ≤ a.tmps.size) (hQ : ∀ c a (d : Nat) v w, Q (.panic c) (a.put (some d) v) w → Q (.panic c) a w) {base N gD n c i gp m cb li : Nat} {ds : List Du} {ms : List M3} {f t : Int} {A : Option Addr} {bs : List (Int × Int)} (eD : a.eval (.tmp 14) = (.slice (some ⟨gD, 0, none⟩) n c)) (eI : a.eval (.tmp 17) = (.int .i64 i)) (eP : a.eval (.tmp 18) = (.pointer (some ⟨gp, 0, none⟩)))
    (h : DuO w base N (.slice (some ⟨gD, 0, none⟩) n c) ds ms) (hi : i < ds.length) (hn : n = ds.length) (hN : N ≤ w.heap.size) (hbs : base ≤ w.heap.size) (hm : m = bs.length) (hb : w.ownsRow base 38 2 (.slice A m cb) m (flat2 bs)) (hl : (uP ds i).length ≤ 2000) (hli : li = (uP ds i).length)
    (hp0 : w.cell? ⟨gp, 0, none⟩ = some (.int .i64 f)) (hp1 : w.cell? ⟨gp, 0 + 1, none⟩ = some (.int .i64 t)) (hp2 : w.cell? ⟨gp, 0 + 2, none⟩ = some (.slice A m cb))
    (K : ∀ z0 z1 z2 z3 z4 z5 z6 z7 z8 z9 z10 z11 w', Hid (∃ ms', DuO w' base w'.heap.size (.slice (some ⟨gD, 0, none⟩) n c) (ds.modify i (dTo (f, t, bs))) ms') → Hid (Chg (fun g => base ≤ g) w w') → Q .normal ((((((((((((a.put (some 130) z0).put (some 131) z1).put (some 132) z2).put (some 133) z3).put (some 134) z4).put (some 135) z5).put (some 136) z6).put (some 137) z7).put (some 138) z8).put (some 139) z9).put (some 140) z10).put (some 141) z11) w') : (Code.region id ops true).wp Try.prog Q a w := by
  subst hli
  have hB0 := Bel.drew w
  obtain ⟨Ai, ci, hcell, hgD, A9, c9, w4, g9, dd, df, gC, gK⟩ := dadd_run (f := f) (t := t) (h.below hB0 (Nat.le_refl _)) hi hn (show N ≤ w.drew.heap.size from hN) (show base ≤ w.drew.heap.size from hbs) hm (show w.drew.ownsRow base 38 2 (.slice A m cb) m (flat2 bs) from hb) hl
  obtain ⟨li, hli⟩ : ∃ li, li = (uP ds i).length := ⟨_, rfl⟩
  rw [← hli] at hcell g9 dd gC gK
  have hin : i < n := by rw [hn]; exact hi
  have kc : ∀ {p : Addr} {v : Value}, w.cell? p = some v → ∀ W, Bel w.drew W → W.cell? p = some v := fun {p} {v} h W hW => (hW.cell (p := p) (World.block_lt_of_cell? w.drew _ h)).trans h
  have cD : ∀ W, Bel w.drew W → W.cell? ⟨gD, i * 3 + 2, none⟩ = some (.slice Ai li ci) := fun W hW => (hW.cell (p := ⟨gD, i * 3 + 2, none⟩) hgD).trans hcell
  have gst := store45 (A := A9) (n := li + 1) (c := c9) dd df
  refine wp_region_WG (by kernel_rfl) hok hQ ?_
  refine g_free (i := 0) (d := some 130) (v := (.slice (some ⟨gD, 0, none⟩) n c)) h0 (wanted_none rfl) rfl (fun W => x_move rfl eD) ?_
  refine g_free (i := 1) (d := some 131) (v := (.int .i64 i)) h1 (wanted_none rfl) rfl (fun W => x_move rfl (pO (by decide) eI)) ?_
  refine g_free (i := 2) (d := some 132) (v := (.slice (some ⟨gD, 0, none⟩) n c)) h2 (wanted_none rfl) rfl (fun W => x_move rfl (pO (by decide) (pO (by decide) eD))) ?_
  refine g_free (i := 3) (d := some 133) (v := (.int .i64 i)) h3 (wanted_none rfl) rfl (fun W => x_move rfl (pO (by decide) (pO (by decide) (pO (by decide) eI)))) ?_
  refine g_free (i := 4) (d := some 134) (v := (.pointer (some ⟨gD, i * 3, none⟩))) h4 (wanted_none rfl) rfl (fun W => x_index rfl (pO (by decide) (pS (pZ (pZ hsz)) (by decide))) (pS (pZ (pZ (pZ hsz))) (by decide)) (run_idx49 W gD n c i hin)) ?_
  refine g_free (i := 5) (d := some 135) (v := (.pointer (some ⟨gD, i * 3 + 2, none⟩))) h5 (wanted_none rfl) rfl (fun W => x_field rfl (pS (pZ (pZ (pZ (pZ hsz)))) (by decide)) (field55 W gD _)) ?_
  refine g_take (i := 6) (d := some 136) (v := (.slice Ai li ci)) h6 (wanted_none rfl) rfl (fun W hW => exec_load rfl (pS (pZ (pZ (pZ (pZ (pZ hsz))))) (by decide)) (load45 (cD W hW))) ?_
  refine g_take (i := 7) (d := some 137) (v := (.agg #[.int .i64 f, .int .i64 t, .slice A m cb])) h7 (wanted_none rfl) rfl (fun W hW => exec_load rfl (pO (by decide) (pO (by decide) (pO (by decide) (pO (by decide) (pO (by decide) (pO (by decide) (pO (by decide) eP))))))) (load58 (kc hp0 W hW) (kc hp1 W hW) (kc hp2 W hW))) ?_
  refine g_val (i := 8) (d := some 138) (v := (.slice (some ⟨w.drew.heap.size, 0, none⟩) 1 1)) (w' := w.drew.alloc (.cells #[.int .i64 f, .int .i64 t, .slice A m cb] 58)) h8 rfl (wanted_none rfl) rfl (exec_buildSlice rfl (pS (pZ (pZ (pZ (pZ (pZ (pZ (pZ hsz))))))) (by decide)) (run_one45 _ _ _ _)) ((Below.refl _ _).alloc (Nat.le_refl _) _) ?_
  refine g_late (d := some 139) (v := (.slice A9 (li + 1) c9)) (w' := w4) h9 (wanted_none rfl) rfl (exec_append rfl (pO (by decide) (pO (by decide) (pS (pZ (pZ (pZ (pZ (pZ (pZ hsz)))))) (by decide)))) (pS (pZ (pZ (pZ (pZ (pZ (pZ (pZ (pZ hsz)))))))) (by decide)) g9) hlt ?_
  refine f_one (i := 10) (d := some 140) (v := (.pointer (some ⟨gD, i * 3, none⟩))) h10 (wanted_none rfl) rfl (x_index rfl (pO (by decide) (pO (by decide) (pO (by decide) (pO (by decide) (pO (by decide) (pO (by decide) (pO (by decide) (pO (by decide) (pO (by decide) (pS hsz (by decide))))))))))) (pO (by decide) (pO (by decide) (pO (by decide) (pO (by decide) (pO (by decide) (pO (by decide) (pO (by decide) (pO (by decide) (pS (pZ hsz) (by decide)))))))))) (run_idx49 w4 gD n c i hin)) ?_
  refine f_one (i := 11) (d := some 141) (v := (.pointer (some ⟨gD, i * 3 + 2, none⟩))) h11 (wanted_none rfl) rfl (x_field rfl (pS (pZ (pZ (pZ (pZ (pZ (pZ (pZ (pZ (pZ (pZ hsz)))))))))) (by decide)) (field55 _ gD _)) ?_
  refine f_unit (i := 12) (w' := w4.setCell ⟨gD, i * 3 + 2, none⟩ (.slice A9 (li + 1) c9)) h12 (wanted_none rfl) rfl (exec_store rfl (pS (pZ (pZ (pZ (pZ (pZ (pZ (pZ (pZ (pZ (pZ (pZ hsz))))))))))) (by decide)) (pO (by decide) (pO (by decide) (pS (pZ (pZ (pZ (pZ (pZ (pZ (pZ (pZ (pZ hsz))))))))) (by decide)))) gst) ?_
  refine f_done ?_
  exact K _ _ _ _ _ _ _ _ _ _ _ _ _ (Lib.hid ⟨_, gC.mono (by simp)⟩) (Lib.hid (((Chg.refl _ w).drew).trans gK (fun _ _ h => h)))
end Go.Proofs.Ytagkdkkpgcolkaa
