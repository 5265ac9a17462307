/-
  Chapter 10: the drawn region of the reference's belongs. The memory is that of the given program; no conditions.
-/
import Derived.Test.YtagkdkkpgcolkaaSh11
namespace Go.Proofs.Ytagkdkkpgcolkaa
open Go.RowKit
set_option linter.unusedVariables false
set_option linter.unusedSimpArgs false
set_option maxHeartbeats 1600000 in
theorem rbel_region {ops : Array Oper} {Q : Exit → Act → World → Prop} {a : Act} {w : World} (id : Nat) {y0 y1 y2 y3 y4 y5 y6 y7 y8 y9 y10 y11 : TypeId} {q0 q1 q2 q3 q4 q5 q6 q7 q8 q9 q10 q11 : String} {f0 f1 f2 f3 f4 f5 f6 f7 f8 f9 f10 f11 : Array Edge} (hok : regT ops (.cons 1 true (.cons 2 true (.cons 0 true (.cons 3 true (.cons 4 true (.fork 5 9 (.cons 6 true (.cons 7 true (.cons 8 true (.cons 9 false (.cons 10 false (.cons 11 true .nil)))))) (.cons 5 false (.cons 6 true (.cons 7 true (.cons 8 true (.cons 10 false (.cons 11 true .nil)))))))))))) = true)
    (h0 : ops[0]? = some ⟨(some 24), .load 25 (.tmp 5), y0, q0, f0, none⟩) (h1 : ops[1]? = some ⟨(some 25), .move (.tmp 1), y1, q1, f1, none⟩) (h2 : ops[2]? = some ⟨(some 26), .move (.tmp 13), y2, q2, f2, none⟩) (h3 : ops[3]? = some ⟨(some 27), .indexAddr 26 (.tmp 25) (.tmp 26), y3, q3, f3, none⟩) (h4 : ops[4]? = some ⟨(some 28), .load 42 (.tmp 27), y4, q4, f4, none⟩) (h5 : ops[5]? = some ⟨(some 29), .call { callee := .value (.func 19), args := #[.tmp 24, .tmp 28], argTypes := #[25, 42] }, y5, q5, f5, none⟩) (h6 : ops[6]? = some ⟨(some 23), .move (.tmp 29), y6, q6, f6, none⟩) (h7 : ops[7]? = some ⟨(some 30), .extract (.tmp 23) 0, y7, q7, f7, none⟩) (h8 : ops[8]? = some ⟨(some 31), .extract (.tmp 23) 1, y8, q8, f8, none⟩) (h9 : ops[9]? = some ⟨(some 14), .alloc 38, y9, q9, f9, none⟩) (h10 : ops[10]? = some ⟨none, .store 38 (.tmp 14) (.tmp 30), y10, q10, f10, none⟩) (h11 : ops[11]? = some ⟨(some 15), .assign (.tmp 31), y11, q11, f11, none⟩)
    (hsz : 77 ≤ a.tmps.size) (hQ : ∀ c a (d : Nat) v w, Q (.panic c) (a.put (some d) v) w → Q (.panic c) a w) {gz g off n c k : Nat} {o d st mi x y e_ : Int} {zA : Option Addr} {zn zc : Nat} (e2 : a.eval (.tmp 5) = .pointer (some ⟨gz, 0, none⟩)) (e1 : a.eval (.tmp 1) = .slice (some ⟨g, off, none⟩) n c) (e7 : a.eval (.tmp 13) = .int .i64 k)
    (hk : k < n) (hz0 : w.cell? ⟨gz, 0, none⟩ = some (.int .i64 o)) (hz1 : w.cell? ⟨gz, 1, none⟩ = some (.slice zA zn zc)) (hs0 : w.cell? ⟨g, off + k * 3, none⟩ = some (.int .i64 d)) (hs1 : w.cell? ⟨g, off + k * 3 + 1, none⟩ = some (.int .i64 st)) (hs2 : w.cell? ⟨g, off + k * 3 + 2, none⟩ = some (.int .i64 mi))
    (cSp : ∀ W, Bel w W → Calls Try.prog 19 #[(.agg #[.int .i64 o, .slice zA zn zc]), (.agg #[.int .i64 d, .int .i64 st, .int .i64 mi])] W (fun r w' => r = .returned (.tuple #[.agg #[.int .i64 x, .int .i64 y], .int .i64 e_]) ∧ Below W.heap.size W w'))
    (K : ∀ z0 z1 z2 z3 z4 z5 z6 z7 z8 g8 w', Hid (Blk w' g8 38 #[.int .i64 x, .int .i64 y]) → Hid (Bel w w') → Q .normal (((((((((((a.put (some 25) z0).put (some 26) z1).put (some 24) z2).put (some 27) z3).put (some 28) z4).put (some 29) z5).put (some 23) z6).put (some 30) z7).put (some 31) z8).put (some 14) (.pointer (some ⟨g8, 0, none⟩))).put (some 15) (.int .i64 e_)) w') : (Code.region id ops true).wp Try.prog Q a w := by
  have kc : ∀ {p : Addr} {v : Value}, w.cell? p = some v → ∀ W, Bel w.drew W → W.cell? p = some v := fun {p} {v} h W hW => (hW.cell (p := p) (World.block_lt_of_cell? w.drew _ h)).trans h
  have cz : ∀ W, Bel w.drew W → (loadVar 25 ⟨gz, 0, none⟩).run Try.prog W = .ok (.agg #[.int .i64 o, .slice zA zn zc]) W := fun W hW => load25 (kc hz0 W hW) (kc hz1 W hW)
  have cs : ∀ W, Bel w.drew W → (loadVar 42 ⟨g, off + k * 3, none⟩).run Try.prog W = .ok (.agg #[.int .i64 d, .int .i64 st, .int .i64 mi]) W := fun W hW => load42 (kc hs0 W hW) (kc hs1 W hW) (kc hs2 W hW)
  have hB0 := Bel.drew w
  refine wp_region_WN (by kernel_rfl) hok hQ ?_
  refine n_take (i := 1) (d := some 25) (v := (.slice (some ⟨g, off, none⟩) n c)) h1 (wanted_none rfl) rfl (fun W hW => x_move rfl e1) ?_
  refine n_take (i := 2) (d := some 26) (v := (.int .i64 k)) h2 (wanted_none rfl) rfl (fun W hW => x_move rfl (pO (by decide) e7)) ?_
  refine n_take (i := 0) (d := some 24) (v := (.agg #[.int .i64 o, .slice zA zn zc])) h0 (wanted_none rfl) rfl (fun W hW => exec_load rfl (pO (by decide) (pO (by decide) e2)) (cz W hW)) ?_
  refine n_take (i := 3) (d := some 27) (v := (.pointer (some ⟨g, off + k * 3, none⟩))) h3 (wanted_none rfl) rfl (fun W hW => x_index rfl (pO (by decide) (pO (by decide) (pS hsz (by decide)))) (pO (by decide) (pS (pZ hsz) (by decide))) (run_idx26 W g off n c k hk)) ?_
  refine n_take (i := 4) (d := some 28) (v := (.agg #[.int .i64 d, .int .i64 st, .int .i64 mi])) h4 (wanted_none rfl) rfl (fun W hW => exec_load rfl (pS (pZ (pZ (pZ hsz))) (by decide)) (cs W hW)) ?_
  refine n_fork (i := 5) (j := 9) (d := some 29) (d' := some 14) (v' := (.pointer (some ⟨w.drew.heap.size, 0, none⟩))) (w' := w.drew.alloc (.cells #[.int .i64 0, .int .i64 0] 38)) h5 (wanted_none rfl) rfl (x_call2 rfl (pO (by decide) (pO (by decide) (pS (pZ (pZ hsz)) (by decide)))) (pS (pZ (pZ (pZ (pZ hsz)))) (by decide)) (cfx19 _ _)) h9 (wanted_none rfl) rfl (x_alloc38 rfl) ((Below.refl _ _).alloc (Nat.le_refl _) _) (Calls.mono (cSp _ hB0) ?_) ?_
  · rintro e w1 ⟨rfl, hb1⟩
    refine ⟨_, rfl, hb1, ?_⟩
    have hB1 := Bel.trans hB0 hb1
    refine n_take (i := 6) (d := some 23) (v := (.tuple #[(.agg #[.int .i64 x, .int .i64 y]), (.int .i64 e_)])) h6 (wanted_none rfl) rfl (fun W hW => x_move rfl (pS (pZ (pZ (pZ (pZ (pZ hsz))))) (by decide))) ?_
    refine n_take (i := 7) (d := some 30) (v := (.agg #[.int .i64 x, .int .i64 y])) h7 (wanted_none rfl) rfl (fun W hW => x_extract rfl (pS (pZ (pZ (pZ (pZ (pZ (pZ hsz)))))) (by decide)) rfl) ?_
    refine n_take (i := 8) (d := some 31) (v := (.int .i64 e_)) h8 (wanted_none rfl) rfl (fun W hW => x_extract rfl (pO (by decide) (pS (pZ (pZ (pZ (pZ (pZ (pZ hsz)))))) (by decide))) rfl) ?_
    refine n_val (i := 9) (d := some 14) (v := (.pointer (some ⟨w1.heap.size, 0, none⟩))) (w' := w1.alloc (.cells #[.int .i64 0, .int .i64 0] 38)) h9 (wanted_none rfl) rfl (x_alloc38 rfl) (Bel.alloc_ hb1 _) ?_
    refine n_unit (i := 10) (w' := ((w1.alloc (.cells #[.int .i64 0, .int .i64 0] 38)).setCell ⟨w1.heap.size, 0, none⟩ (.int .i64 x)).setCell ⟨w1.heap.size, 1, none⟩ (.int .i64 y)) h10 (wanted_none rfl) rfl (exec_store rfl (pS (pZ (pZ (pZ (pZ (pZ (pZ (pZ (pZ (pZ hsz))))))))) (by decide)) (pO (by decide) (pO (by decide) (pS (pZ (pZ (pZ (pZ (pZ (pZ (pZ hsz))))))) (by decide)))) (store38 (Blk.new _ _ _))) (Bel.put2 hb1 _ _ _) ?_
    refine n_take (i := 11) (d := some 15) (v := (.int .i64 e_)) h11 (wanted_none rfl) rfl (fun W hW => x_assign rfl (pO (by decide) (pS (pZ (pZ (pZ (pZ (pZ (pZ (pZ (pZ hsz)))))))) (by decide)))) ?_
    refine n_done ?_
    exact K _ _ _ _ _ _ _ _ _ w1.heap.size _ (Lib.hid (blk38 _ _ _)) (Lib.hid (Bel.trans (Bel.drew w) (Bel.put2 hb1 _ _ _)))
  · have hb0 : Bel w.drew (w.drew.alloc (.cells #[.int .i64 0, .int .i64 0] 38)) := (Below.refl _ _).alloc (Nat.le_refl _) _
    refine n_call (i := 5) (d := some 29) h5 (wanted_none rfl) rfl (x_call2 rfl (pO (by decide) (pO (by decide) (pO (by decide) (pS (pZ (pZ hsz)) (by decide))))) (pO (by decide) (pS (pZ (pZ (pZ (pZ hsz)))) (by decide))) (cfx19 _ _)) (Calls.mono (cSp _ (Bel.trans hB0 hb0)) ?_)
    rintro e w1 ⟨rfl, hb1⟩
    refine ⟨_, rfl, Bel.trans hb0 hb1, ?_⟩
    have hb : Blk w1 w.drew.heap.size 38 #[.int .i64 0, .int .i64 0] := (Blk.new w.drew 38 #[.int .i64 0, .int .i64 0]).below hb1 (by simp)
    refine n_take (i := 6) (d := some 23) (v := (.tuple #[(.agg #[.int .i64 x, .int .i64 y]), (.int .i64 e_)])) h6 (wanted_none rfl) rfl (fun W hW => x_move rfl (pS (pZ (pZ (pZ (pZ (pZ (pZ hsz)))))) (by decide))) ?_
    refine n_take (i := 7) (d := some 30) (v := (.agg #[.int .i64 x, .int .i64 y])) h7 (wanted_none rfl) rfl (fun W hW => x_extract rfl (pS (pZ (pZ (pZ (pZ (pZ (pZ (pZ hsz))))))) (by decide)) rfl) ?_
    refine n_take (i := 8) (d := some 31) (v := (.int .i64 e_)) h8 (wanted_none rfl) rfl (fun W hW => x_extract rfl (pO (by decide) (pS (pZ (pZ (pZ (pZ (pZ (pZ (pZ hsz))))))) (by decide))) rfl) ?_
    refine n_unit (i := 10) (w' := (w1.setCell ⟨w.drew.heap.size, 0, none⟩ (.int .i64 x)).setCell ⟨w.drew.heap.size, 1, none⟩ (.int .i64 y)) h10 (wanted_none rfl) rfl (exec_store rfl (pO (by decide) (pO (by decide) (pO (by decide) (pO (by decide) (pS (pZ (pZ (pZ (pZ (pZ hsz))))) (by decide)))))) (pO (by decide) (pS (pZ (pZ (pZ (pZ (pZ (pZ (pZ (pZ hsz)))))))) (by decide))) (store38 hb)) (Bel.set2 (Bel.trans hb0 hb1) (Nat.le_refl _) _ _) ?_
    refine n_take (i := 11) (d := some 15) (v := (.int .i64 e_)) h11 (wanted_none rfl) rfl (fun W hW => x_assign rfl (pS (pZ (pZ (pZ (pZ (pZ (pZ (pZ (pZ (pZ hsz))))))))) (by decide))) ?_
    refine n_done ?_
    rw [put_comm _ 14 29 _ _ (by decide), put_comm _ 14 23 _ _ (by decide), put_comm _ 14 30 _ _ (by decide), put_comm _ 14 31 _ _ (by decide)]
    exact K _ _ _ _ _ _ _ _ _ w.drew.heap.size _ (Lib.hid (blk38s hb _ _)) (Lib.hid (Bel.trans (Bel.drew w) (Bel.set2 (Bel.trans hb0 hb1) (Nat.le_refl _) _ _)))
end Go.Proofs.Ytagkdkkpgcolkaa
