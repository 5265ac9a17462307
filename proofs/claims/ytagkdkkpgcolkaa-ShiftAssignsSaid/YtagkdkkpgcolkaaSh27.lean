/-
  Chapter 10: the walk of the law ShiftDivides. The memory is that of the given program; no conditions.
-/
import Derived.Test.YtagkdkkpgcolkaaSh26c
namespace Go.Proofs.Ytagkdkkpgcolkaa
open Go.RowKit
set_option linter.unusedVariables false
set_option linter.unusedSimpArgs false

theorem x_binA {P : Program} {o : Oper} {a : Act} {w : World} {b : BinOp} {x y : Operand} {t t' : TypeId} {us vs : Array Value} {r : Value} (ho : o.op = .binOp b t x y t') (hx : a.eval x = .agg us) (hy : a.eval y = .agg vs) (hg : P.eqGuardType P.depth t = false) (hr : (binOp b t (.agg us) (.agg vs)).run P w = .ok r w) : (execOp a.eval o).run P w = .ok (.value r) w := by
  unfold execOp
  have hg : (eqGuard b t x y (.agg us) (.agg vs)).run P w = .ok () w := by cases b <;> simp [eqGuard, go_sem, hg]
  simp only [ho, hx, hy, Sem.run_bind, hg, hr, Sem.run_pure, Result.andThen_ok]
theorem guard38 : Try.prog.eqGuardType Try.prog.depth 38 = false := by kernel_rfl
theorem eql38 (w : World) (a b c d : Int) : (binOp .eql 38 (.agg #[.int .i64 a, .int .i64 b]) (.agg #[.int .i64 c, .int .i64 d])).run Try.prog w = .ok (.bool (a == c && b == d)) w := by
  have h : (Op.equal 38 (.agg #[.int .i64 a, .int .i64 b]) (.agg #[.int .i64 c, .int .i64 d])).run Try.prog w = .ok (a == c && b == d) w := run_eqIv a b c d w
  simp [binOp, go_sem, h]
theorem x_ints60 {o : Oper} {a : Act} {w : World} (ho : o.op = .buildSlice 22 2 #[(0, .const (.int .i64 60)), (1, .const (.int .i64 0))]) : (execOp a.eval o).run Try.prog w = .ok (.value (.slice (some ⟨w.heap.size, 0, none⟩) 2 2)) (w.alloc (.cells (([60, 0] : List Int).map (Value.int .i64)).toArray 3)) := by
  have h : (execOp a.eval { o with op := .buildSlice 22 2 #[(0, .const (.int .i64 60)), (1, .const (.int .i64 0))] }).run Try.prog w = .ok (.value (.slice (some ⟨w.heap.size, 0, none⟩) 2 2)) (w.alloc (.cells (([60, 0] : List Int).map (Value.int .i64)).toArray 3)) := by kernel_rfl
  rw [← ho] at h
  exact h
theorem x_ints120 {o : Oper} {a : Act} {w : World} (ho : o.op = .buildSlice 22 2 #[(0, .const (.int .i64 120)), (1, .const (.int .i64 0))]) : (execOp a.eval o).run Try.prog w = .ok (.value (.slice (some ⟨w.heap.size, 0, none⟩) 2 2)) (w.alloc (.cells (([120, 0] : List Int).map (Value.int .i64)).toArray 3)) := by
  have h : (execOp a.eval { o with op := .buildSlice 22 2 #[(0, .const (.int .i64 120)), (1, .const (.int .i64 0))] }).run Try.prog w = .ok (.value (.slice (some ⟨w.heap.size, 0, none⟩) 2 2)) (w.alloc (.cells (([120, 0] : List Int).map (Value.int .i64)).toArray 3)) := by kernel_rfl
  rw [← ho] at h
  exact h
/-- in the middle of the region: the zone's box, the tape -/
structure D3 (w : World) (g gz : Nat) (cs : Array Value) (M : Int) (W : World) : Prop where
  box : Blk W gz 25 cs
  deck : Deck W g M
  only : Only g w W
section
variable {w W : World} {g gz : Nat} {cs : Array Value} {M : Int}
theorem D3.alloc (h : D3 w g gz cs M W) (o : Obj) : D3 w g gz cs M (W.alloc o) := ⟨h.box.alloc o, h.deck.alloc o, h.only.alloc o⟩
theorem D3.pick {gl m : Nat} {l : List Int} (h : D3 w g gz cs M W) (hl : Blk W gl 3 (l.map (Value.int .i64)).toArray) (hm : m = l.length) (h0 : 0 < l.length) (hl6 : l.length ≤ 1000000) (hM : M ≤ 1000000) :
    Calls Try.prog 23 #[.pointer (some ⟨g, 0, none⟩), .slice (some ⟨gl, 0, none⟩) m m] W (fun e w' => ∃ u, e = .returned (.int .i64 u) ∧ u ∈ l ∧ D3 w g gz cs (M + 1) w' ∧ ∀ b t bs, Blk W b t bs → t ≠ 66 → Blk w' b t bs) := by
  subst hm
  obtain ⟨dcs, hd⟩ := h.deck.blk
  refine (pick_any g M (some ⟨gl, 0, none⟩) l.length _ l W h.deck hM (rdI_blk hl) (Nat.le_refl _) (fun b off e => ?_) h0 hl6).mono ?_
  · injection e with e
    injection e with e
    subst e
    exact Blk.ne_ hl hd (by decide)
  · rintro e w' ⟨u, rfl, hu, ho, hD⟩
    have hk : ∀ b t bs, Blk W b t bs → t ≠ 66 → Blk w' b t bs := fun b t bs hb hne => hb.grown ho (fun e => by
      injection e with e
      exact Blk.ne_ hb hd hne e)
    exact ⟨u, rfl, hu, ⟨hk _ _ _ h.box (by decide), hD, h.only.trans ho⟩, hk⟩
end
set_option maxHeartbeats 1600000 in
theorem div3 {ops : Array Oper} {Q : Exit → Act → World → Prop} {a : Act} {w : World} (id : Nat) {y0 y1 y2 y3 y5 y6 y8 y9 y10 y11 y12 y13 y14 : TypeId} {q0 q1 q2 q3 q4 q5 q6 q7 q8 q9 q10 q11 q12 q13 q14 : String} {f0 f1 f2 f3 f4 f5 f6 f7 f8 f9 f10 f11 f12 f13 f14 : Array Edge} (hok : regT ops (.cons 1 true (.cons 2 true (.cons 3 true (.cons 6 true (.cons 0 true (.fork 4 7 (.fork 5 7 (.cons 7 false (.cons 8 false (.cons 9 false (.cons 10 true (.cons 11 true (.cons 12 true (.cons 13 true (.cons 14 true .nil)))))))) (.cons 5 false (.cons 8 false (.cons 9 false (.cons 10 true (.cons 11 true (.cons 12 true (.cons 13 true (.cons 14 true .nil))))))))) (.cons 4 false (.cons 5 false (.cons 8 false (.cons 9 false (.cons 10 true (.cons 11 true (.cons 12 true (.cons 13 true (.cons 14 true .nil))))))))))))))) = true)
    (h0 : ops[0]? = some ⟨(some 23), .load 25 (.tmp 4), y0, q0, f0, none⟩) (h1 : ops[1]? = some ⟨(some 24), .move (.tmp 5), y1, q1, f1, none⟩) (h2 : ops[2]? = some ⟨(some 25), .move (.tmp 6), y2, q2, f2, none⟩) (h3 : ops[3]? = some ⟨(some 26), .move (.tmp 3), y3, q3, f3, none⟩) (h4 : ops[4]? = some ⟨(some 27), .buildSlice 22 2 #[(0, .const (.int .i64 60)), (1, .const (.int .i64 0))], 22, q4, f4, none⟩) (h5 : ops[5]? = some ⟨(some 28), .call { callee := .value (.func 23), args := #[.tmp 26, .tmp 27], argTypes := #[27, 22] }, y5, q5, f5, none⟩) (h6 : ops[6]? = some ⟨(some 29), .move (.tmp 3), y6, q6, f6, none⟩) (h7 : ops[7]? = some ⟨(some 30), .buildSlice 22 2 #[(0, .const (.int .i64 120)), (1, .const (.int .i64 0))], 22, q7, f7, none⟩) (h8 : ops[8]? = some ⟨(some 31), .call { callee := .value (.func 23), args := #[.tmp 29, .tmp 30], argTypes := #[27, 22] }, y8, q8, f8, none⟩) (h9 : ops[9]? = some ⟨(some 32), .call { callee := .value (.func 24), args := #[.tmp 23, .tmp 24, .tmp 25, .tmp 28, .tmp 31], argTypes := #[25, 26, 45, 3, 3] }, y9, q9, f9, none⟩) (h10 : ops[10]? = some ⟨(some 22), .move (.tmp 32), y10, q10, f10, none⟩) (h11 : ops[11]? = some ⟨(some 33), .extract (.tmp 22) 0, y11, q11, f11, none⟩) (h12 : ops[12]? = some ⟨(some 34), .extract (.tmp 22) 1, y12, q12, f12, none⟩) (h13 : ops[13]? = some ⟨(some 7), .assign (.tmp 33), y13, q13, f13, none⟩) (h14 : ops[14]? = some ⟨(some 8), .assign (.tmp 34), y14, q14, f14, none⟩)
    (hsz : 160 ≤ a.tmps.size) (hQ : ∀ c a (d : Nat) v w, Q (.panic c) (a.put (some d) v) w → Q (.panic c) a w) {g gz zn zc yn yc ln lc : Nat} {o M : Int} {zA yA lA : Option Addr} {zl : List (Int × Int)} {l : List T3} {P : List Pr} (e3 : a.eval (.tmp 3) = (.pointer (some ⟨g, 0, none⟩))) (e4 : a.eval (.tmp 4) = (.pointer (some ⟨gz, 0, none⟩))) (e5 : a.eval (.tmp 5) = (.slice yA yn yc)) (e6 : a.eval (.tmp 6) = (.slice lA ln lc))
    (hE : D3 w g gz #[.int .i64 o, .slice zA zn zc] M w) (hM : M ≤ 900000)
    (cA : ∀ u v W, u ∈ ([60, 0] : List Int) → v ∈ ([120, 0] : List Int) → Only g w W → Calls Try.prog 24 #[(.agg #[.int .i64 o, .slice zA zn zc]), .slice yA yn yc, .slice lA ln lc, .int .i64 u, .int .i64 v] W (AsAny o zl l P u v W))
    (K : ∀ z0 z1 z2 z3 z4 z5 z6 z7 z8 z9 z10 z11 z12 u v A9 n9 c9 w', Hid (u ∈ ([60, 0] : List Int)) → Hid (v ∈ ([120, 0] : List Int)) → Hid (Only g w w') → Hid (Deck w' g (M + 1 + 1)) → Hid (asE o zl l P u v = 0 → n9 = (asL o zl l P u v).length ∧ RdDu w' A9 (asL o zl l P u v)) → Hid (¬ asE o zl l P u v = 0 → A9 = none ∧ n9 = 0 ∧ c9 = 0) → Q .normal (((((((((((((((a.put (some 24) z0).put (some 25) z1).put (some 26) z2).put (some 29) z3).put (some 23) z4).put (some 27) z5).put (some 28) z6).put (some 30) z7).put (some 31) z8).put (some 32) z9).put (some 22) z10).put (some 33) z11).put (some 34) z12).put (some 7) (.slice A9 n9 c9)).put (some 8) (.int .i64 (asE o zl l P u v))) w') : (Code.region id ops true).wp Try.prog Q a w := by
  have hE0 : D3 w g gz #[.int .i64 o, .slice zA zn zc] M w.drew := ⟨hE.box, hE.deck, hE.only.drew⟩
  refine wp_region_WS (S := fun W => Blk W gz 25 #[.int .i64 o, .slice zA zn zc]) (by kernel_rfl) hok hQ hE0.box ?_
  refine stake_ (i := 1) (d := some 24) (v := (.slice yA yn yc)) h1 (wanted_none rfl) rfl (fun W hW => x_move rfl e5) ?_
  refine stake_ (i := 2) (d := some 25) (v := (.slice lA ln lc)) h2 (wanted_none rfl) rfl (fun W hW => x_move rfl (pO (by decide) e6)) ?_
  refine stake_ (i := 3) (d := some 26) (v := (.pointer (some ⟨g, 0, none⟩))) h3 (wanted_none rfl) rfl (fun W hW => x_move rfl (pO (by decide) (pO (by decide) e3))) ?_
  refine stake_ (i := 6) (d := some 29) (v := (.pointer (some ⟨g, 0, none⟩))) h6 (wanted_none rfl) rfl (fun W hW => x_move rfl (pO (by decide) (pO (by decide) (pO (by decide) e3)))) ?_
  refine stake_ (i := 0) (d := some 23) (v := (.agg #[.int .i64 o, .slice zA zn zc])) h0 (wanted_none rfl) rfl (fun W hW => exec_load rfl (pO (by decide) (pO (by decide) (pO (by decide) (pO (by decide) e4)))) (load25 (hW.cell 0) (hW.cell 1))) ?_
  refine sfork2_ (i := 4) (j := 7) (d := some 27) (d' := some 30) (v := (.slice (some ⟨w.drew.heap.size, 0, none⟩) 2 2)) (w'' := w.drew.alloc (.cells (([60, 0] : List Int).map (Value.int .i64)).toArray 3)) (v' := (.slice (some ⟨w.drew.heap.size, 0, none⟩) 2 2)) (w' := w.drew.alloc (.cells (([120, 0] : List Int).map (Value.int .i64)).toArray 3)) h4 (wanted_none rfl) rfl (x_ints60 rfl) ((hE0.alloc _).box) h7 (wanted_none rfl) rfl (x_ints120 rfl) ((hE0.alloc _).box) ?_ ?_
  · refine sfork_ (i := 5) (j := 7) (d := some 28) (d' := some 30) (v' := (.slice (some ⟨(w.drew.alloc (.cells (([60, 0] : List Int).map (Value.int .i64)).toArray 3)).heap.size, 0, none⟩) 2 2)) (w' := (w.drew.alloc (.cells (([60, 0] : List Int).map (Value.int .i64)).toArray 3)).alloc (.cells (([120, 0] : List Int).map (Value.int .i64)).toArray 3)) h5 (wanted_none rfl) rfl (x_call2 rfl (pO (by decide) (pO (by decide) (pO (by decide) (pS (pZ (pZ hsz)) (by decide))))) (pS (pZ (pZ (pZ (pZ (pZ hsz))))) (by decide)) (cfx23 _ _)) h7 (wanted_none rfl) rfl (x_ints120 rfl) (((hE0.alloc _).alloc _).box) (Calls.mono (D3.pick (hE0.alloc (.cells (([60, 0] : List Int).map (Value.int .i64)).toArray 3)) (Blk.new _ _ _) rfl (by decide) (by decide) (by omega)) ?_) ?_
    · rintro e w5 ⟨u, rfl, hu, h5, hk5⟩
      refine ⟨_, rfl, h5.box, ?_⟩
      refine sval_ (i := 7) (d := some 30) (v := (.slice (some ⟨w5.heap.size, 0, none⟩) 2 2)) (w' := w5.alloc (.cells (([120, 0] : List Int).map (Value.int .i64)).toArray 3)) h7 (wanted_none rfl) rfl (x_ints120 rfl) ((h5.alloc _).box) ?_
      refine scall_ (i := 8) (d := some 31) h8 (wanted_none rfl) rfl (x_call2 rfl (pO (by decide) (pO (by decide) (pO (by decide) (pO (by decide) (pS (pZ (pZ (pZ hsz))) (by decide)))))) (pS (pZ (pZ (pZ (pZ (pZ (pZ (pZ hsz))))))) (by decide)) (cfx23 _ _)) (Calls.mono (D3.pick (h5.alloc (.cells (([120, 0] : List Int).map (Value.int .i64)).toArray 3)) (Blk.new _ _ _) rfl (by decide) (by decide) (by omega)) ?_)
      rintro e w8 ⟨v, rfl, hv, h8, _⟩
      refine ⟨_, rfl, h8.box, ?_⟩
      refine scall_ (i := 9) (d := some 32) h9 (wanted_none rfl) rfl (x_call5 rfl (pO (by decide) (pO (by decide) (pO (by decide) (pO (by decide) (pS (pZ (pZ (pZ (pZ hsz)))) (by decide)))))) (pO (by decide) (pO (by decide) (pO (by decide) (pO (by decide) (pO (by decide) (pO (by decide) (pO (by decide) (pO (by decide) (pS hsz (by decide)))))))))) (pO (by decide) (pO (by decide) (pO (by decide) (pO (by decide) (pO (by decide) (pO (by decide) (pO (by decide) (pS (pZ hsz) (by decide))))))))) (pO (by decide) (pO (by decide) (pS (pZ (pZ (pZ (pZ (pZ (pZ hsz)))))) (by decide)))) (pS (pZ (pZ (pZ (pZ (pZ (pZ (pZ (pZ hsz)))))))) (by decide)) (cfx24 _ _)) (Calls.mono (cA u v _ hu hv h8.only) ?_)
      rintro e w9 ⟨hb9, A9, n9, c9, rfl, h0, h1⟩
      refine ⟨_, rfl, h8.box.below hb9 h8.box.lt, ?_⟩
      refine stake_ (i := 10) (d := some 22) (v := (.tuple #[.slice A9 n9 c9, .int .i64 (asE o zl l P u v)])) h10 (wanted_none rfl) rfl (fun W hW => x_move rfl (pS (pZ (pZ (pZ (pZ (pZ (pZ (pZ (pZ (pZ hsz))))))))) (by decide))) ?_
      refine stake_ (i := 11) (d := some 33) (v := (.slice A9 n9 c9)) h11 (wanted_none rfl) rfl (fun W hW => x_extract rfl (pS (pZ (pZ (pZ (pZ (pZ (pZ (pZ (pZ (pZ (pZ hsz)))))))))) (by decide)) rfl) ?_
      refine stake_ (i := 12) (d := some 34) (v := (.int .i64 (asE o zl l P u v))) h12 (wanted_none rfl) rfl (fun W hW => x_extract rfl (pO (by decide) (pS (pZ (pZ (pZ (pZ (pZ (pZ (pZ (pZ (pZ (pZ hsz)))))))))) (by decide))) rfl) ?_
      refine stake_ (i := 13) (d := some 7) (v := (.slice A9 n9 c9)) h13 (wanted_none rfl) rfl (fun W hW => x_assign rfl (pO (by decide) (pS (pZ (pZ (pZ (pZ (pZ (pZ (pZ (pZ (pZ (pZ (pZ hsz))))))))))) (by decide)))) ?_
      refine stake_ (i := 14) (d := some 8) (v := (.int .i64 (asE o zl l P u v))) h14 (wanted_none rfl) rfl (fun W hW => x_assign rfl (pO (by decide) (pS (pZ (pZ (pZ (pZ (pZ (pZ (pZ (pZ (pZ (pZ (pZ (pZ hsz)))))))))))) (by decide)))) ?_
      refine sdone_ ?_
      exact K _ _ _ _ _ _ _ _ _ _ _ _ _ u v A9 n9 c9 w9 (Lib.hid hu) (Lib.hid hv) (Lib.hid (h8.only.trans (Only.of_below hb9 g))) (Lib.hid (h8.deck.below hb9 h8.deck.lt)) (Lib.hid h0) (Lib.hid h1)
    · refine scall_ (i := 5) (d := some 28) h5 (wanted_none rfl) rfl (x_call2 rfl (pO (by decide) (pO (by decide) (pO (by decide) (pO (by decide) (pS (pZ (pZ hsz)) (by decide)))))) (pO (by decide) (pS (pZ (pZ (pZ (pZ (pZ hsz))))) (by decide))) (cfx23 _ _)) (Calls.mono (D3.pick ((hE0.alloc (.cells (([60, 0] : List Int).map (Value.int .i64)).toArray 3)).alloc (.cells (([120, 0] : List Int).map (Value.int .i64)).toArray 3)) ((Blk.new _ _ _).alloc _) rfl (by decide) (by decide) (by omega)) ?_)
      rintro e w5 ⟨u, rfl, hu, h5, hk5⟩
      refine ⟨_, rfl, h5.box, ?_⟩
      refine scall_ (i := 8) (d := some 31) h8 (wanted_none rfl) rfl (x_call2 rfl (pO (by decide) (pO (by decide) (pO (by decide) (pO (by decide) (pS (pZ (pZ (pZ hsz))) (by decide)))))) (pO (by decide) (pS (pZ (pZ (pZ (pZ (pZ (pZ hsz)))))) (by decide))) (cfx23 _ _)) (Calls.mono (D3.pick h5 (hk5 _ _ _ (Blk.new _ _ _) (by decide)) rfl (by decide) (by decide) (by omega)) ?_)
      rintro e w8 ⟨v, rfl, hv, h8, _⟩
      refine ⟨_, rfl, h8.box, ?_⟩
      refine scall_ (i := 9) (d := some 32) h9 (wanted_none rfl) rfl (x_call5 rfl (pO (by decide) (pO (by decide) (pO (by decide) (pO (by decide) (pS (pZ (pZ (pZ (pZ hsz)))) (by decide)))))) (pO (by decide) (pO (by decide) (pO (by decide) (pO (by decide) (pO (by decide) (pO (by decide) (pO (by decide) (pO (by decide) (pS hsz (by decide)))))))))) (pO (by decide) (pO (by decide) (pO (by decide) (pO (by decide) (pO (by decide) (pO (by decide) (pO (by decide) (pS (pZ hsz) (by decide))))))))) (pO (by decide) (pS (pZ (pZ (pZ (pZ (pZ (pZ (pZ hsz))))))) (by decide))) (pS (pZ (pZ (pZ (pZ (pZ (pZ (pZ (pZ hsz)))))))) (by decide)) (cfx24 _ _)) (Calls.mono (cA u v _ hu hv h8.only) ?_)
      rintro e w9 ⟨hb9, A9, n9, c9, rfl, h0, h1⟩
      refine ⟨_, rfl, h8.box.below hb9 h8.box.lt, ?_⟩
      refine stake_ (i := 10) (d := some 22) (v := (.tuple #[.slice A9 n9 c9, .int .i64 (asE o zl l P u v)])) h10 (wanted_none rfl) rfl (fun W hW => x_move rfl (pS (pZ (pZ (pZ (pZ (pZ (pZ (pZ (pZ (pZ hsz))))))))) (by decide))) ?_
      refine stake_ (i := 11) (d := some 33) (v := (.slice A9 n9 c9)) h11 (wanted_none rfl) rfl (fun W hW => x_extract rfl (pS (pZ (pZ (pZ (pZ (pZ (pZ (pZ (pZ (pZ (pZ hsz)))))))))) (by decide)) rfl) ?_
      refine stake_ (i := 12) (d := some 34) (v := (.int .i64 (asE o zl l P u v))) h12 (wanted_none rfl) rfl (fun W hW => x_extract rfl (pO (by decide) (pS (pZ (pZ (pZ (pZ (pZ (pZ (pZ (pZ (pZ (pZ hsz)))))))))) (by decide))) rfl) ?_
      refine stake_ (i := 13) (d := some 7) (v := (.slice A9 n9 c9)) h13 (wanted_none rfl) rfl (fun W hW => x_assign rfl (pO (by decide) (pS (pZ (pZ (pZ (pZ (pZ (pZ (pZ (pZ (pZ (pZ (pZ hsz))))))))))) (by decide)))) ?_
      refine stake_ (i := 14) (d := some 8) (v := (.int .i64 (asE o zl l P u v))) h14 (wanted_none rfl) rfl (fun W hW => x_assign rfl (pO (by decide) (pS (pZ (pZ (pZ (pZ (pZ (pZ (pZ (pZ (pZ (pZ (pZ (pZ hsz)))))))))))) (by decide)))) ?_
      refine sdone_ ?_
      rw [put_comm _ 30 28 _ _ (by decide)]
      exact K _ _ _ _ _ _ _ _ _ _ _ _ _ u v A9 n9 c9 w9 (Lib.hid hu) (Lib.hid hv) (Lib.hid (h8.only.trans (Only.of_below hb9 g))) (Lib.hid (h8.deck.below hb9 h8.deck.lt)) (Lib.hid h0) (Lib.hid h1)
  · refine sval_ (i := 4) (d := some 27) (v := (.slice (some ⟨(w.drew.alloc (.cells (([120, 0] : List Int).map (Value.int .i64)).toArray 3)).heap.size, 0, none⟩) 2 2)) (w' := (w.drew.alloc (.cells (([120, 0] : List Int).map (Value.int .i64)).toArray 3)).alloc (.cells (([60, 0] : List Int).map (Value.int .i64)).toArray 3)) h4 (wanted_none rfl) rfl (x_ints60 rfl) (((hE0.alloc _).alloc _).box) ?_
    refine scall_ (i := 5) (d := some 28) h5 (wanted_none rfl) rfl (x_call2 rfl (pO (by decide) (pO (by decide) (pO (by decide) (pO (by decide) (pS (pZ (pZ hsz)) (by decide)))))) (pS (pZ (pZ (pZ (pZ (pZ (pZ hsz)))))) (by decide)) (cfx23 _ _)) (Calls.mono (D3.pick ((hE0.alloc (.cells (([120, 0] : List Int).map (Value.int .i64)).toArray 3)).alloc (.cells (([60, 0] : List Int).map (Value.int .i64)).toArray 3)) (Blk.new _ _ _) rfl (by decide) (by decide) (by omega)) ?_)
    rintro e w5 ⟨u, rfl, hu, h5, hk5⟩
    refine ⟨_, rfl, h5.box, ?_⟩
    refine scall_ (i := 8) (d := some 31) h8 (wanted_none rfl) rfl (x_call2 rfl (pO (by decide) (pO (by decide) (pO (by decide) (pO (by decide) (pS (pZ (pZ (pZ hsz))) (by decide)))))) (pO (by decide) (pO (by decide) (pS (pZ (pZ (pZ (pZ (pZ hsz))))) (by decide)))) (cfx23 _ _)) (Calls.mono (D3.pick h5 (hk5 _ _ _ ((Blk.new _ _ _).alloc _) (by decide)) rfl (by decide) (by decide) (by omega)) ?_)
    rintro e w8 ⟨v, rfl, hv, h8, _⟩
    refine ⟨_, rfl, h8.box, ?_⟩
    refine scall_ (i := 9) (d := some 32) h9 (wanted_none rfl) rfl (x_call5 rfl (pO (by decide) (pO (by decide) (pO (by decide) (pO (by decide) (pS (pZ (pZ (pZ (pZ hsz)))) (by decide)))))) (pO (by decide) (pO (by decide) (pO (by decide) (pO (by decide) (pO (by decide) (pO (by decide) (pO (by decide) (pO (by decide) (pS hsz (by decide)))))))))) (pO (by decide) (pO (by decide) (pO (by decide) (pO (by decide) (pO (by decide) (pO (by decide) (pO (by decide) (pS (pZ hsz) (by decide))))))))) (pO (by decide) (pS (pZ (pZ (pZ (pZ (pZ (pZ (pZ hsz))))))) (by decide))) (pS (pZ (pZ (pZ (pZ (pZ (pZ (pZ (pZ hsz)))))))) (by decide)) (cfx24 _ _)) (Calls.mono (cA u v _ hu hv h8.only) ?_)
    rintro e w9 ⟨hb9, A9, n9, c9, rfl, h0, h1⟩
    refine ⟨_, rfl, h8.box.below hb9 h8.box.lt, ?_⟩
    refine stake_ (i := 10) (d := some 22) (v := (.tuple #[.slice A9 n9 c9, .int .i64 (asE o zl l P u v)])) h10 (wanted_none rfl) rfl (fun W hW => x_move rfl (pS (pZ (pZ (pZ (pZ (pZ (pZ (pZ (pZ (pZ hsz))))))))) (by decide))) ?_
    refine stake_ (i := 11) (d := some 33) (v := (.slice A9 n9 c9)) h11 (wanted_none rfl) rfl (fun W hW => x_extract rfl (pS (pZ (pZ (pZ (pZ (pZ (pZ (pZ (pZ (pZ (pZ hsz)))))))))) (by decide)) rfl) ?_
    refine stake_ (i := 12) (d := some 34) (v := (.int .i64 (asE o zl l P u v))) h12 (wanted_none rfl) rfl (fun W hW => x_extract rfl (pO (by decide) (pS (pZ (pZ (pZ (pZ (pZ (pZ (pZ (pZ (pZ (pZ hsz)))))))))) (by decide))) rfl) ?_
    refine stake_ (i := 13) (d := some 7) (v := (.slice A9 n9 c9)) h13 (wanted_none rfl) rfl (fun W hW => x_assign rfl (pO (by decide) (pS (pZ (pZ (pZ (pZ (pZ (pZ (pZ (pZ (pZ (pZ (pZ hsz))))))))))) (by decide)))) ?_
    refine stake_ (i := 14) (d := some 8) (v := (.int .i64 (asE o zl l P u v))) h14 (wanted_none rfl) rfl (fun W hW => x_assign rfl (pO (by decide) (pS (pZ (pZ (pZ (pZ (pZ (pZ (pZ (pZ (pZ (pZ (pZ (pZ hsz)))))))))))) (by decide)))) ?_
    refine sdone_ ?_
    rw [put_comm _ 30 27 _ _ (by decide)]
    rw [put_comm _ 30 28 _ _ (by decide)]
    exact K _ _ _ _ _ _ _ _ _ _ _ _ _ u v A9 n9 c9 w9 (Lib.hid hu) (Lib.hid hv) (Lib.hid (h8.only.trans (Only.of_below hb9 g))) (Lib.hid (h8.deck.below hb9 h8.deck.lt)) (Lib.hid h0) (Lib.hid h1)
set_option maxHeartbeats 1600000 in
theorem div10a {ops : Array Oper} {Q : Exit → Act → World → Prop} {a : Act} {w : World} (id : Nat) {y0 y1 y2 y3 y4 y5 y6 y7 y8 y9 y10 y11 y12 y13 y14 y15 y16 y17 y18 y19 y20 y21 y22 y23 y24 y25 y26 y27 y28 y29 y30 y31 y32 : TypeId} {q0 q1 q2 q3 q4 q5 q6 q7 q8 q9 q10 q11 q12 q13 q14 q15 q16 q17 q18 q19 q20 q21 q22 q23 q24 q25 q26 q27 q28 q29 q30 q31 q32 : String} {f0 f1 f2 f3 f4 f5 f6 f7 f8 f9 f10 f11 f12 f13 f14 f15 f16 f17 f18 f19 f20 f21 f22 f23 f24 f25 f26 f27 f28 f29 f30 f31 f32 : Array Edge} (hok : regT ops (.cons 0 true (.cons 1 true (.cons 2 true (.cons 3 true (.cons 4 true (.cons 5 true (.cons 6 true (.cons 7 true (.cons 8 true (.cons 9 true (.cons 10 true (.cons 11 true (.cons 12 true (.cons 13 true (.cons 14 true (.cons 15 true (.cons 16 true (.cons 17 true (.cons 18 true (.cons 19 true (.cons 20 true (.cons 21 true (.cons 22 true (.cons 23 true (.cons 24 true (.cons 25 true (.cons 26 true (.cons 27 true (.cons 28 true (.cons 29 true (.cons 30 true (.cons 31 true (.cons 32 true .nil))))))))))))))))))))))))))))))))) = true)
    (h0 : ops[0]? = some ⟨(some 54), .move (.tmp 7), y0, q0, f0, none⟩) (h1 : ops[1]? = some ⟨(some 55), .move (.tmp 10), y1, q1, f1, none⟩) (h2 : ops[2]? = some ⟨(some 56), .indexAddr 49 (.tmp 54) (.tmp 55), y2, q2, f2, none⟩) (h3 : ops[3]? = some ⟨(some 57), .fieldAddr 55 (.tmp 56) 2, y3, q3, f3, none⟩) (h4 : ops[4]? = some ⟨(some 58), .load 45 (.tmp 57), y4, q4, f4, none⟩) (h5 : ops[5]? = some ⟨(some 59), .call { callee := .builtin .len, args := #[.tmp 58], argTypes := #[45] }, y5, q5, f5, none⟩) (h6 : ops[6]? = some ⟨(some 60), .binOp .eql 3 (.tmp 59) (.const (.int .i64 0)) 3, y6, q6, f6, none⟩) (h7 : ops[7]? = some ⟨(some 61), .move (.tmp 60), y7, q7, f7, none⟩) (h8 : ops[8]? = some ⟨(some 62), .move (.tmp 10), y8, q8, f8, (some (7, false))⟩) (h9 : ops[9]? = some ⟨(some 63), .binOp .gtr 3 (.tmp 62) (.const (.int .i64 0)) 3, y9, q9, f9, (some (7, false))⟩) (h10 : ops[10]? = some ⟨(some 64), .move (.tmp 63), y10, q10, f10, (some (7, false))⟩) (h11 : ops[11]? = some ⟨(some 65), .move (.tmp 7), y11, q11, f11, (some (10, true))⟩) (h12 : ops[12]? = some ⟨(some 66), .move (.tmp 10), y12, q12, f12, (some (10, true))⟩) (h13 : ops[13]? = some ⟨(some 67), .indexAddr 49 (.tmp 65) (.tmp 66), y13, q13, f13, (some (10, true))⟩) (h14 : ops[14]? = some ⟨(some 68), .fieldAddr 55 (.tmp 67) 2, y14, q14, f14, (some (10, true))⟩) (h15 : ops[15]? = some ⟨(some 69), .load 45 (.tmp 68), y15, q15, f15, (some (10, true))⟩) (h16 : ops[16]? = some ⟨(some 70), .indexAddr 45 (.tmp 69) (.const (.int .i64 0)), y16, q16, f16, (some (10, true))⟩) (h17 : ops[17]? = some ⟨(some 71), .fieldAddr 58 (.tmp 70) 0, y17, q17, f17, (some (10, true))⟩) (h18 : ops[18]? = some ⟨(some 72), .fieldAddr 38 (.tmp 71) 0, y18, q18, f18, (some (10, true))⟩) (h19 : ops[19]? = some ⟨(some 73), .load 3 (.tmp 72), y19, q19, f19, (some (10, true))⟩) (h20 : ops[20]? = some ⟨(some 74), .move (.tmp 7), y20, q20, f20, (some (10, true))⟩) (h21 : ops[21]? = some ⟨(some 75), .move (.tmp 10), y21, q21, f21, (some (10, true))⟩) (h22 : ops[22]? = some ⟨(some 76), .binOp .sub 3 (.tmp 75) (.const (.int .i64 1)) 3, y22, q22, f22, (some (10, true))⟩) (h23 : ops[23]? = some ⟨(some 77), .indexAddr 49 (.tmp 74) (.tmp 76), y23, q23, f23, (some (10, true))⟩) (h24 : ops[24]? = some ⟨(some 78), .fieldAddr 55 (.tmp 77) 2, y24, q24, f24, (some (10, true))⟩) (h25 : ops[25]? = some ⟨(some 79), .load 45 (.tmp 78), y25, q25, f25, (some (10, true))⟩) (h26 : ops[26]? = some ⟨(some 80), .indexAddr 45 (.tmp 79) (.const (.int .i64 0)), y26, q26, f26, (some (10, true))⟩) (h27 : ops[27]? = some ⟨(some 81), .fieldAddr 58 (.tmp 80) 0, y27, q27, f27, (some (10, true))⟩) (h28 : ops[28]? = some ⟨(some 82), .fieldAddr 38 (.tmp 81) 0, y28, q28, f28, (some (10, true))⟩) (h29 : ops[29]? = some ⟨(some 83), .load 3 (.tmp 82), y29, q29, f29, (some (10, true))⟩) (h30 : ops[30]? = some ⟨(some 84), .binOp .leq 3 (.tmp 73) (.tmp 83) 3, y30, q30, f30, (some (10, true))⟩) (h31 : ops[31]? = some ⟨(some 85), .pick (.tmp 64) (.tmp 84) (.const (.bool false)), y31, q31, f31, (some (7, false))⟩) (h32 : ops[32]? = some ⟨(some 86), .pick (.tmp 61) (.const (.bool true)) (.tmp 85), y32, q32, f32, none⟩)
    (hsz : 160 ≤ a.tmps.size) (hQ : ∀ c a (d : Nat) v w, Q (.panic c) (a.put (some d) v) w → Q (.panic c) a w) {gD n c gP oP m cb : Nat} (e7 : a.eval (.tmp 7) = (.slice (some ⟨gD, 0, none⟩) n c)) (e10 : a.eval (.tmp 10) = (.int .i64 0)) (hi : 0 < n) (hm : 0 < m) (hP : w.cell? ⟨gD, 0 * 3 + 2, none⟩ = some (.slice (some ⟨gP, oP, none⟩) m cb))
    (K : ∀ z0 z1 z2 z3 z4 z5 z6 z7 z8 z9 z10 z11 z12 z13 z14 z15 z16 z17 z18 z19 z20 z21 z22 z23 z24 z25 z26 z27 z28 z29 z30 z31 w', Hid (Bel w w') → Q .normal (((((((((((((((((((((((((((((((((a.put (some 54) z0).put (some 55) z1).put (some 56) z2).put (some 57) z3).put (some 58) z4).put (some 59) z5).put (some 60) z6).put (some 61) z7).put (some 62) z8).put (some 63) z9).put (some 64) z10).put (some 65) z11).put (some 66) z12).put (some 67) z13).put (some 68) z14).put (some 69) z15).put (some 70) z16).put (some 71) z17).put (some 72) z18).put (some 73) z19).put (some 74) z20).put (some 75) z21).put (some 76) z22).put (some 77) z23).put (some 78) z24).put (some 79) z25).put (some 80) z26).put (some 81) z27).put (some 82) z28).put (some 83) z29).put (some 84) z30).put (some 85) z31).put (some 86) (.bool false)) w') : (Code.region id ops true).wp Try.prog Q a w := by
  have kc : ∀ {p : Addr} {v : Value}, w.cell? p = some v → ∀ W, Bel w.drew W → W.cell? p = some v := fun {p} {v} h W hW => (hW.cell (p := p) (World.block_lt_of_cell? w.drew _ h)).trans h
  have hB0 := Bel.drew w
  refine wp_region_WN (by kernel_rfl) hok hQ ?_
  refine n_take (i := 0) (d := some 54) (v := (.slice (some ⟨gD, 0, none⟩) n c)) h0 (wanted_none rfl) rfl (fun W hW => x_move rfl e7) ?_
  refine n_take (i := 1) (d := some 55) (v := (.int .i64 0)) h1 (wanted_none rfl) rfl (fun W hW => x_move rfl (pO (by decide) e10)) ?_
  refine n_take (i := 2) (d := some 56) (v := (.pointer (some ⟨gD, 0 * 3, none⟩))) h2 (wanted_none rfl) rfl (fun W hW => x_index rfl (pO (by decide) (pS hsz (by decide))) (pS (pZ hsz) (by decide)) (run_idx49 W gD n c 0 hi)) ?_
  refine n_take (i := 3) (d := some 57) (v := (.pointer (some ⟨gD, 0 * 3 + 2, none⟩))) h3 (wanted_none rfl) rfl (fun W hW => x_field rfl (pS (pZ (pZ hsz)) (by decide)) (field55 W gD _)) ?_
  refine n_take (i := 4) (d := some 58) (v := (.slice (some ⟨gP, oP, none⟩) m cb)) h4 (wanted_none rfl) rfl (fun W hW => exec_load rfl (pS (pZ (pZ (pZ hsz))) (by decide)) (load45 (kc hP W hW))) ?_
  refine n_take (i := 5) (d := some 59) (v := (.int .i64 m)) h5 (wanted_none rfl) rfl (fun W hW => x_len rfl (pS (pZ (pZ (pZ (pZ hsz)))) (by decide)) (len45 _ _ _ _ _)) ?_
  refine n_take (i := 6) (d := some 60) (v := (.bool false)) h6 (wanted_none rfl) rfl (fun W hW => x_bin rfl (pS (pZ (pZ (pZ (pZ (pZ hsz))))) (by decide)) rfl (eql_intF W _ _ (by omega))) ?_
  refine n_take (i := 7) (d := some 61) (v := (.bool false)) h7 (wanted_none rfl) rfl (fun W hW => x_move rfl (pS (pZ (pZ (pZ (pZ (pZ (pZ hsz)))))) (by decide))) ?_
  refine n_take (i := 8) (d := some 62) (v := (.int .i64 0)) h8 (wanted_yes rfl h7 rfl (pS (pZ (pZ (pZ (pZ (pZ (pZ (pZ hsz))))))) (by decide))) rfl (fun W hW => x_move rfl (pO (by decide) (pO (by decide) (pO (by decide) (pO (by decide) (pO (by decide) (pO (by decide) (pO (by decide) (pO (by decide) e10))))))))) ?_
  refine n_take (i := 9) (d := some 63) (v := (.bool false)) h9 (wanted_yes rfl h7 rfl (pO (by decide) (pS (pZ (pZ (pZ (pZ (pZ (pZ (pZ hsz))))))) (by decide)))) rfl (fun W hW => x_bin rfl (pS (pZ (pZ (pZ (pZ (pZ (pZ (pZ (pZ hsz)))))))) (by decide)) rfl (gtr_intF W _ _ (by omega))) ?_
  refine n_take (i := 10) (d := some 64) (v := (.bool false)) h10 (wanted_yes rfl h7 rfl (pO (by decide) (pO (by decide) (pS (pZ (pZ (pZ (pZ (pZ (pZ (pZ hsz))))))) (by decide))))) rfl (fun W hW => x_move rfl (pS (pZ (pZ (pZ (pZ (pZ (pZ (pZ (pZ (pZ hsz))))))))) (by decide))) ?_
  refine n_skip (i := 11) (d := some 65) h11 (wanted_no rfl h10 rfl (pS (pZ (pZ (pZ (pZ (pZ (pZ (pZ (pZ (pZ (pZ hsz)))))))))) (by decide))) rfl ?_
  refine n_skip (i := 12) (d := some 66) h12 (wanted_no rfl h10 rfl (pO (by decide) (pS (pZ (pZ (pZ (pZ (pZ (pZ (pZ (pZ (pZ (pZ hsz)))))))))) (by decide)))) rfl ?_
  refine n_skip (i := 13) (d := some 67) h13 (wanted_no rfl h10 rfl (pO (by decide) (pO (by decide) (pS (pZ (pZ (pZ (pZ (pZ (pZ (pZ (pZ (pZ (pZ hsz)))))))))) (by decide))))) rfl ?_
  refine n_skip (i := 14) (d := some 68) h14 (wanted_no rfl h10 rfl (pO (by decide) (pO (by decide) (pO (by decide) (pS (pZ (pZ (pZ (pZ (pZ (pZ (pZ (pZ (pZ (pZ hsz)))))))))) (by decide)))))) rfl ?_
  refine n_skip (i := 15) (d := some 69) h15 (wanted_no rfl h10 rfl (pO (by decide) (pO (by decide) (pO (by decide) (pO (by decide) (pS (pZ (pZ (pZ (pZ (pZ (pZ (pZ (pZ (pZ (pZ hsz)))))))))) (by decide))))))) rfl ?_
  refine n_skip (i := 16) (d := some 70) h16 (wanted_no rfl h10 rfl (pO (by decide) (pO (by decide) (pO (by decide) (pO (by decide) (pO (by decide) (pS (pZ (pZ (pZ (pZ (pZ (pZ (pZ (pZ (pZ (pZ hsz)))))))))) (by decide)))))))) rfl ?_
  refine n_skip (i := 17) (d := some 71) h17 (wanted_no rfl h10 rfl (pO (by decide) (pO (by decide) (pO (by decide) (pO (by decide) (pO (by decide) (pO (by decide) (pS (pZ (pZ (pZ (pZ (pZ (pZ (pZ (pZ (pZ (pZ hsz)))))))))) (by decide))))))))) rfl ?_
  refine n_skip (i := 18) (d := some 72) h18 (wanted_no rfl h10 rfl (pO (by decide) (pO (by decide) (pO (by decide) (pO (by decide) (pO (by decide) (pO (by decide) (pO (by decide) (pS (pZ (pZ (pZ (pZ (pZ (pZ (pZ (pZ (pZ (pZ hsz)))))))))) (by decide)))))))))) rfl ?_
  refine n_skip (i := 19) (d := some 73) h19 (wanted_no rfl h10 rfl (pO (by decide) (pO (by decide) (pO (by decide) (pO (by decide) (pO (by decide) (pO (by decide) (pO (by decide) (pO (by decide) (pS (pZ (pZ (pZ (pZ (pZ (pZ (pZ (pZ (pZ (pZ hsz)))))))))) (by decide))))))))))) rfl ?_
  refine n_skip (i := 20) (d := some 74) h20 (wanted_no rfl h10 rfl (pO (by decide) (pO (by decide) (pO (by decide) (pO (by decide) (pO (by decide) (pO (by decide) (pO (by decide) (pO (by decide) (pO (by decide) (pS (pZ (pZ (pZ (pZ (pZ (pZ (pZ (pZ (pZ (pZ hsz)))))))))) (by decide)))))))))))) rfl ?_
  refine n_skip (i := 21) (d := some 75) h21 (wanted_no rfl h10 rfl (pO (by decide) (pO (by decide) (pO (by decide) (pO (by decide) (pO (by decide) (pO (by decide) (pO (by decide) (pO (by decide) (pO (by decide) (pO (by decide) (pS (pZ (pZ (pZ (pZ (pZ (pZ (pZ (pZ (pZ (pZ hsz)))))))))) (by decide))))))))))))) rfl ?_
  refine n_skip (i := 22) (d := some 76) h22 (wanted_no rfl h10 rfl (pO (by decide) (pO (by decide) (pO (by decide) (pO (by decide) (pO (by decide) (pO (by decide) (pO (by decide) (pO (by decide) (pO (by decide) (pO (by decide) (pO (by decide) (pS (pZ (pZ (pZ (pZ (pZ (pZ (pZ (pZ (pZ (pZ hsz)))))))))) (by decide)))))))))))))) rfl ?_
  refine n_skip (i := 23) (d := some 77) h23 (wanted_no rfl h10 rfl (pO (by decide) (pO (by decide) (pO (by decide) (pO (by decide) (pO (by decide) (pO (by decide) (pO (by decide) (pO (by decide) (pO (by decide) (pO (by decide) (pO (by decide) (pO (by decide) (pS (pZ (pZ (pZ (pZ (pZ (pZ (pZ (pZ (pZ (pZ hsz)))))))))) (by decide))))))))))))))) rfl ?_
  refine n_skip (i := 24) (d := some 78) h24 (wanted_no rfl h10 rfl (pO (by decide) (pO (by decide) (pO (by decide) (pO (by decide) (pO (by decide) (pO (by decide) (pO (by decide) (pO (by decide) (pO (by decide) (pO (by decide) (pO (by decide) (pO (by decide) (pO (by decide) (pS (pZ (pZ (pZ (pZ (pZ (pZ (pZ (pZ (pZ (pZ hsz)))))))))) (by decide)))))))))))))))) rfl ?_
  refine n_skip (i := 25) (d := some 79) h25 (wanted_no rfl h10 rfl (pO (by decide) (pO (by decide) (pO (by decide) (pO (by decide) (pO (by decide) (pO (by decide) (pO (by decide) (pO (by decide) (pO (by decide) (pO (by decide) (pO (by decide) (pO (by decide) (pO (by decide) (pO (by decide) (pS (pZ (pZ (pZ (pZ (pZ (pZ (pZ (pZ (pZ (pZ hsz)))))))))) (by decide))))))))))))))))) rfl ?_
  refine n_skip (i := 26) (d := some 80) h26 (wanted_no rfl h10 rfl (pO (by decide) (pO (by decide) (pO (by decide) (pO (by decide) (pO (by decide) (pO (by decide) (pO (by decide) (pO (by decide) (pO (by decide) (pO (by decide) (pO (by decide) (pO (by decide) (pO (by decide) (pO (by decide) (pO (by decide) (pS (pZ (pZ (pZ (pZ (pZ (pZ (pZ (pZ (pZ (pZ hsz)))))))))) (by decide)))))))))))))))))) rfl ?_
  refine n_skip (i := 27) (d := some 81) h27 (wanted_no rfl h10 rfl (pO (by decide) (pO (by decide) (pO (by decide) (pO (by decide) (pO (by decide) (pO (by decide) (pO (by decide) (pO (by decide) (pO (by decide) (pO (by decide) (pO (by decide) (pO (by decide) (pO (by decide) (pO (by decide) (pO (by decide) (pO (by decide) (pS (pZ (pZ (pZ (pZ (pZ (pZ (pZ (pZ (pZ (pZ hsz)))))))))) (by decide))))))))))))))))))) rfl ?_
  refine n_skip (i := 28) (d := some 82) h28 (wanted_no rfl h10 rfl (pO (by decide) (pO (by decide) (pO (by decide) (pO (by decide) (pO (by decide) (pO (by decide) (pO (by decide) (pO (by decide) (pO (by decide) (pO (by decide) (pO (by decide) (pO (by decide) (pO (by decide) (pO (by decide) (pO (by decide) (pO (by decide) (pO (by decide) (pS (pZ (pZ (pZ (pZ (pZ (pZ (pZ (pZ (pZ (pZ hsz)))))))))) (by decide)))))))))))))))))))) rfl ?_
  refine n_skip (i := 29) (d := some 83) h29 (wanted_no rfl h10 rfl (pO (by decide) (pO (by decide) (pO (by decide) (pO (by decide) (pO (by decide) (pO (by decide) (pO (by decide) (pO (by decide) (pO (by decide) (pO (by decide) (pO (by decide) (pO (by decide) (pO (by decide) (pO (by decide) (pO (by decide) (pO (by decide) (pO (by decide) (pO (by decide) (pS (pZ (pZ (pZ (pZ (pZ (pZ (pZ (pZ (pZ (pZ hsz)))))))))) (by decide))))))))))))))))))))) rfl ?_
  refine n_skip (i := 30) (d := some 84) h30 (wanted_no rfl h10 rfl (pO (by decide) (pO (by decide) (pO (by decide) (pO (by decide) (pO (by decide) (pO (by decide) (pO (by decide) (pO (by decide) (pO (by decide) (pO (by decide) (pO (by decide) (pO (by decide) (pO (by decide) (pO (by decide) (pO (by decide) (pO (by decide) (pO (by decide) (pO (by decide) (pO (by decide) (pS (pZ (pZ (pZ (pZ (pZ (pZ (pZ (pZ (pZ (pZ hsz)))))))))) (by decide)))))))))))))))))))))) rfl ?_
  refine n_take (i := 31) (d := some 85) (v := (.bool false)) h31 (wanted_yes rfl h7 rfl (pO (by decide) (pO (by decide) (pO (by decide) (pO (by decide) (pO (by decide) (pO (by decide) (pO (by decide) (pO (by decide) (pO (by decide) (pO (by decide) (pO (by decide) (pO (by decide) (pO (by decide) (pO (by decide) (pO (by decide) (pO (by decide) (pO (by decide) (pO (by decide) (pO (by decide) (pO (by decide) (pO (by decide) (pO (by decide) (pO (by decide) (pS (pZ (pZ (pZ (pZ (pZ (pZ (pZ hsz))))))) (by decide)))))))))))))))))))))))))) rfl (fun W hW => x_pickF rfl (pO (by decide) (pO (by decide) (pO (by decide) (pO (by decide) (pO (by decide) (pO (by decide) (pO (by decide) (pO (by decide) (pO (by decide) (pO (by decide) (pO (by decide) (pO (by decide) (pO (by decide) (pO (by decide) (pO (by decide) (pO (by decide) (pO (by decide) (pO (by decide) (pO (by decide) (pO (by decide) (pS (pZ (pZ (pZ (pZ (pZ (pZ (pZ (pZ (pZ (pZ hsz)))))))))) (by decide)))))))))))))))))))))) rfl) ?_
  refine n_take (i := 32) (d := some 86) (v := (.bool false)) h32 (wanted_none rfl) rfl (fun W hW => x_pickF rfl (pO (by decide) (pO (by decide) (pO (by decide) (pO (by decide) (pO (by decide) (pO (by decide) (pO (by decide) (pO (by decide) (pO (by decide) (pO (by decide) (pO (by decide) (pO (by decide) (pO (by decide) (pO (by decide) (pO (by decide) (pO (by decide) (pO (by decide) (pO (by decide) (pO (by decide) (pO (by decide) (pO (by decide) (pO (by decide) (pO (by decide) (pO (by decide) (pS (pZ (pZ (pZ (pZ (pZ (pZ (pZ hsz))))))) (by decide)))))))))))))))))))))))))) (pS (pZ (pZ (pZ (pZ (pZ (pZ (pZ (pZ (pZ (pZ (pZ (pZ (pZ (pZ (pZ (pZ (pZ (pZ (pZ (pZ (pZ (pZ (pZ (pZ (pZ (pZ (pZ (pZ (pZ (pZ (pZ hsz))))))))))))))))))))))))))))))) (by decide))) ?_
  refine n_done ?_
  exact K _ _ _ _ _ _ _ _ _ _ _ _ _ _ _ _ _ _ _ _ _ _ _ _ _ _ _ _ _ _ _ _ _ (Lib.hid hB0)
set_option maxHeartbeats 1600000 in
theorem div10b {ops : Array Oper} {Q : Exit → Act → World → Prop} {a : Act} {w : World} (id : Nat) {y0 y1 y2 y3 y4 y5 y6 y7 y8 y9 y10 y11 y12 y13 y14 y15 y16 y17 y18 y19 y20 y21 y22 y23 y24 y25 y26 y27 y28 y29 y30 y31 y32 : TypeId} {q0 q1 q2 q3 q4 q5 q6 q7 q8 q9 q10 q11 q12 q13 q14 q15 q16 q17 q18 q19 q20 q21 q22 q23 q24 q25 q26 q27 q28 q29 q30 q31 q32 : String} {f0 f1 f2 f3 f4 f5 f6 f7 f8 f9 f10 f11 f12 f13 f14 f15 f16 f17 f18 f19 f20 f21 f22 f23 f24 f25 f26 f27 f28 f29 f30 f31 f32 : Array Edge} (hok : regT ops (.cons 0 true (.cons 1 true (.cons 2 true (.cons 3 true (.cons 4 true (.cons 5 true (.cons 6 true (.cons 7 true (.cons 8 true (.cons 9 true (.cons 10 true (.cons 11 true (.cons 12 true (.cons 13 true (.cons 14 true (.cons 15 true (.cons 16 true (.cons 17 true (.cons 18 true (.cons 19 true (.cons 20 true (.cons 21 true (.cons 22 true (.cons 23 true (.cons 24 true (.cons 25 true (.cons 26 true (.cons 27 true (.cons 28 true (.cons 29 true (.cons 30 true (.cons 31 true (.cons 32 true .nil))))))))))))))))))))))))))))))))) = true)
    (h0 : ops[0]? = some ⟨(some 54), .move (.tmp 7), y0, q0, f0, none⟩) (h1 : ops[1]? = some ⟨(some 55), .move (.tmp 10), y1, q1, f1, none⟩) (h2 : ops[2]? = some ⟨(some 56), .indexAddr 49 (.tmp 54) (.tmp 55), y2, q2, f2, none⟩) (h3 : ops[3]? = some ⟨(some 57), .fieldAddr 55 (.tmp 56) 2, y3, q3, f3, none⟩) (h4 : ops[4]? = some ⟨(some 58), .load 45 (.tmp 57), y4, q4, f4, none⟩) (h5 : ops[5]? = some ⟨(some 59), .call { callee := .builtin .len, args := #[.tmp 58], argTypes := #[45] }, y5, q5, f5, none⟩) (h6 : ops[6]? = some ⟨(some 60), .binOp .eql 3 (.tmp 59) (.const (.int .i64 0)) 3, y6, q6, f6, none⟩) (h7 : ops[7]? = some ⟨(some 61), .move (.tmp 60), y7, q7, f7, none⟩) (h8 : ops[8]? = some ⟨(some 62), .move (.tmp 10), y8, q8, f8, (some (7, false))⟩) (h9 : ops[9]? = some ⟨(some 63), .binOp .gtr 3 (.tmp 62) (.const (.int .i64 0)) 3, y9, q9, f9, (some (7, false))⟩) (h10 : ops[10]? = some ⟨(some 64), .move (.tmp 63), y10, q10, f10, (some (7, false))⟩) (h11 : ops[11]? = some ⟨(some 65), .move (.tmp 7), y11, q11, f11, (some (10, true))⟩) (h12 : ops[12]? = some ⟨(some 66), .move (.tmp 10), y12, q12, f12, (some (10, true))⟩) (h13 : ops[13]? = some ⟨(some 67), .indexAddr 49 (.tmp 65) (.tmp 66), y13, q13, f13, (some (10, true))⟩) (h14 : ops[14]? = some ⟨(some 68), .fieldAddr 55 (.tmp 67) 2, y14, q14, f14, (some (10, true))⟩) (h15 : ops[15]? = some ⟨(some 69), .load 45 (.tmp 68), y15, q15, f15, (some (10, true))⟩) (h16 : ops[16]? = some ⟨(some 70), .indexAddr 45 (.tmp 69) (.const (.int .i64 0)), y16, q16, f16, (some (10, true))⟩) (h17 : ops[17]? = some ⟨(some 71), .fieldAddr 58 (.tmp 70) 0, y17, q17, f17, (some (10, true))⟩) (h18 : ops[18]? = some ⟨(some 72), .fieldAddr 38 (.tmp 71) 0, y18, q18, f18, (some (10, true))⟩) (h19 : ops[19]? = some ⟨(some 73), .load 3 (.tmp 72), y19, q19, f19, (some (10, true))⟩) (h20 : ops[20]? = some ⟨(some 74), .move (.tmp 7), y20, q20, f20, (some (10, true))⟩) (h21 : ops[21]? = some ⟨(some 75), .move (.tmp 10), y21, q21, f21, (some (10, true))⟩) (h22 : ops[22]? = some ⟨(some 76), .binOp .sub 3 (.tmp 75) (.const (.int .i64 1)) 3, y22, q22, f22, (some (10, true))⟩) (h23 : ops[23]? = some ⟨(some 77), .indexAddr 49 (.tmp 74) (.tmp 76), y23, q23, f23, (some (10, true))⟩) (h24 : ops[24]? = some ⟨(some 78), .fieldAddr 55 (.tmp 77) 2, y24, q24, f24, (some (10, true))⟩) (h25 : ops[25]? = some ⟨(some 79), .load 45 (.tmp 78), y25, q25, f25, (some (10, true))⟩) (h26 : ops[26]? = some ⟨(some 80), .indexAddr 45 (.tmp 79) (.const (.int .i64 0)), y26, q26, f26, (some (10, true))⟩) (h27 : ops[27]? = some ⟨(some 81), .fieldAddr 58 (.tmp 80) 0, y27, q27, f27, (some (10, true))⟩) (h28 : ops[28]? = some ⟨(some 82), .fieldAddr 38 (.tmp 81) 0, y28, q28, f28, (some (10, true))⟩) (h29 : ops[29]? = some ⟨(some 83), .load 3 (.tmp 82), y29, q29, f29, (some (10, true))⟩) (h30 : ops[30]? = some ⟨(some 84), .binOp .leq 3 (.tmp 73) (.tmp 83) 3, y30, q30, f30, (some (10, true))⟩) (h31 : ops[31]? = some ⟨(some 85), .pick (.tmp 64) (.tmp 84) (.const (.bool false)), y31, q31, f31, (some (7, false))⟩) (h32 : ops[32]? = some ⟨(some 86), .pick (.tmp 61) (.const (.bool true)) (.tmp 85), y32, q32, f32, none⟩)
    (hsz : 160 ≤ a.tmps.size) (hQ : ∀ c a (d : Nat) v w, Q (.panic c) (a.put (some d) v) w → Q (.panic c) a w) {gD n c i i1 gP oP m cb gQ oQ m1 cb1 : Nat} {f fb : Int} (e7 : a.eval (.tmp 7) = (.slice (some ⟨gD, 0, none⟩) n c)) (e10 : a.eval (.tmp 10) = (.int .i64 i)) (hi : i < n) (hi1 : i = i1 + 1) (hn : n ≤ 100000) (hm : 0 < m) (hm1 : 0 < m1) (hP : w.cell? ⟨gD, i * 3 + 2, none⟩ = some (.slice (some ⟨gP, oP, none⟩) m cb)) (hP1 : w.cell? ⟨gD, i1 * 3 + 2, none⟩ = some (.slice (some ⟨gQ, oQ, none⟩) m1 cb1)) (hf : w.cell? ⟨gP, oP + 0 * 3, none⟩ = some (.int .i64 f)) (hfb : w.cell? ⟨gQ, oQ + 0 * 3, none⟩ = some (.int .i64 fb)) (hlt : fb < f)
    (K : ∀ z0 z1 z2 z3 z4 z5 z6 z7 z8 z9 z10 z11 z12 z13 z14 z15 z16 z17 z18 z19 z20 z21 z22 z23 z24 z25 z26 z27 z28 z29 z30 z31 w', Hid (Bel w w') → Q .normal (((((((((((((((((((((((((((((((((a.put (some 54) z0).put (some 55) z1).put (some 56) z2).put (some 57) z3).put (some 58) z4).put (some 59) z5).put (some 60) z6).put (some 61) z7).put (some 62) z8).put (some 63) z9).put (some 64) z10).put (some 65) z11).put (some 66) z12).put (some 67) z13).put (some 68) z14).put (some 69) z15).put (some 70) z16).put (some 71) z17).put (some 72) z18).put (some 73) z19).put (some 74) z20).put (some 75) z21).put (some 76) z22).put (some 77) z23).put (some 78) z24).put (some 79) z25).put (some 80) z26).put (some 81) z27).put (some 82) z28).put (some 83) z29).put (some 84) z30).put (some 85) z31).put (some 86) (.bool false)) w') : (Code.region id ops true).wp Try.prog Q a w := by
  have kc : ∀ {p : Addr} {v : Value}, w.cell? p = some v → ∀ W, Bel w.drew W → W.cell? p = some v := fun {p} {v} h W hW => (hW.cell (p := p) (World.block_lt_of_cell? w.drew _ h)).trans h
  have hB0 := Bel.drew w
  refine wp_region_WN (by kernel_rfl) hok hQ ?_
  refine n_take (i := 0) (d := some 54) (v := (.slice (some ⟨gD, 0, none⟩) n c)) h0 (wanted_none rfl) rfl (fun W hW => x_move rfl e7) ?_
  refine n_take (i := 1) (d := some 55) (v := (.int .i64 i)) h1 (wanted_none rfl) rfl (fun W hW => x_move rfl (pO (by decide) e10)) ?_
  refine n_take (i := 2) (d := some 56) (v := (.pointer (some ⟨gD, i * 3, none⟩))) h2 (wanted_none rfl) rfl (fun W hW => x_index rfl (pO (by decide) (pS hsz (by decide))) (pS (pZ hsz) (by decide)) (run_idx49 W gD n c i hi)) ?_
  refine n_take (i := 3) (d := some 57) (v := (.pointer (some ⟨gD, i * 3 + 2, none⟩))) h3 (wanted_none rfl) rfl (fun W hW => x_field rfl (pS (pZ (pZ hsz)) (by decide)) (field55 W gD _)) ?_
  refine n_take (i := 4) (d := some 58) (v := (.slice (some ⟨gP, oP, none⟩) m cb)) h4 (wanted_none rfl) rfl (fun W hW => exec_load rfl (pS (pZ (pZ (pZ hsz))) (by decide)) (load45 (kc hP W hW))) ?_
  refine n_take (i := 5) (d := some 59) (v := (.int .i64 m)) h5 (wanted_none rfl) rfl (fun W hW => x_len rfl (pS (pZ (pZ (pZ (pZ hsz)))) (by decide)) (len45 _ _ _ _ _)) ?_
  refine n_take (i := 6) (d := some 60) (v := (.bool false)) h6 (wanted_none rfl) rfl (fun W hW => x_bin rfl (pS (pZ (pZ (pZ (pZ (pZ hsz))))) (by decide)) rfl (eql_intF W _ _ (by omega))) ?_
  refine n_take (i := 7) (d := some 61) (v := (.bool false)) h7 (wanted_none rfl) rfl (fun W hW => x_move rfl (pS (pZ (pZ (pZ (pZ (pZ (pZ hsz)))))) (by decide))) ?_
  refine n_take (i := 8) (d := some 62) (v := (.int .i64 i)) h8 (wanted_yes rfl h7 rfl (pS (pZ (pZ (pZ (pZ (pZ (pZ (pZ hsz))))))) (by decide))) rfl (fun W hW => x_move rfl (pO (by decide) (pO (by decide) (pO (by decide) (pO (by decide) (pO (by decide) (pO (by decide) (pO (by decide) (pO (by decide) e10))))))))) ?_
  refine n_take (i := 9) (d := some 63) (v := (.bool true)) h9 (wanted_yes rfl h7 rfl (pO (by decide) (pS (pZ (pZ (pZ (pZ (pZ (pZ (pZ hsz))))))) (by decide)))) rfl (fun W hW => x_bin rfl (pS (pZ (pZ (pZ (pZ (pZ (pZ (pZ (pZ hsz)))))))) (by decide)) rfl (gtr_intT W _ _ (by omega))) ?_
  refine n_take (i := 10) (d := some 64) (v := (.bool true)) h10 (wanted_yes rfl h7 rfl (pO (by decide) (pO (by decide) (pS (pZ (pZ (pZ (pZ (pZ (pZ (pZ hsz))))))) (by decide))))) rfl (fun W hW => x_move rfl (pS (pZ (pZ (pZ (pZ (pZ (pZ (pZ (pZ (pZ hsz))))))))) (by decide))) ?_
  refine n_take (i := 11) (d := some 65) (v := (.slice (some ⟨gD, 0, none⟩) n c)) h11 (wanted_yes rfl h10 rfl (pS (pZ (pZ (pZ (pZ (pZ (pZ (pZ (pZ (pZ (pZ hsz)))))))))) (by decide))) rfl (fun W hW => x_move rfl (pO (by decide) (pO (by decide) (pO (by decide) (pO (by decide) (pO (by decide) (pO (by decide) (pO (by decide) (pO (by decide) (pO (by decide) (pO (by decide) (pO (by decide) e7)))))))))))) ?_
  refine n_take (i := 12) (d := some 66) (v := (.int .i64 i)) h12 (wanted_yes rfl h10 rfl (pO (by decide) (pS (pZ (pZ (pZ (pZ (pZ (pZ (pZ (pZ (pZ (pZ hsz)))))))))) (by decide)))) rfl (fun W hW => x_move rfl (pO (by decide) (pO (by decide) (pO (by decide) (pO (by decide) (pO (by decide) (pO (by decide) (pO (by decide) (pO (by decide) (pO (by decide) (pO (by decide) (pO (by decide) (pO (by decide) e10))))))))))))) ?_
  refine n_take (i := 13) (d := some 67) (v := (.pointer (some ⟨gD, i * 3, none⟩))) h13 (wanted_yes rfl h10 rfl (pO (by decide) (pO (by decide) (pS (pZ (pZ (pZ (pZ (pZ (pZ (pZ (pZ (pZ (pZ hsz)))))))))) (by decide))))) rfl (fun W hW => x_index rfl (pO (by decide) (pS (pZ (pZ (pZ (pZ (pZ (pZ (pZ (pZ (pZ (pZ (pZ hsz))))))))))) (by decide))) (pS (pZ (pZ (pZ (pZ (pZ (pZ (pZ (pZ (pZ (pZ (pZ (pZ hsz)))))))))))) (by decide)) (run_idx49 W gD n c i hi)) ?_
  refine n_take (i := 14) (d := some 68) (v := (.pointer (some ⟨gD, i * 3 + 2, none⟩))) h14 (wanted_yes rfl h10 rfl (pO (by decide) (pO (by decide) (pO (by decide) (pS (pZ (pZ (pZ (pZ (pZ (pZ (pZ (pZ (pZ (pZ hsz)))))))))) (by decide)))))) rfl (fun W hW => x_field rfl (pS (pZ (pZ (pZ (pZ (pZ (pZ (pZ (pZ (pZ (pZ (pZ (pZ (pZ hsz))))))))))))) (by decide)) (field55 W gD _)) ?_
  refine n_take (i := 15) (d := some 69) (v := (.slice (some ⟨gP, oP, none⟩) m cb)) h15 (wanted_yes rfl h10 rfl (pO (by decide) (pO (by decide) (pO (by decide) (pO (by decide) (pS (pZ (pZ (pZ (pZ (pZ (pZ (pZ (pZ (pZ (pZ hsz)))))))))) (by decide))))))) rfl (fun W hW => exec_load rfl (pS (pZ (pZ (pZ (pZ (pZ (pZ (pZ (pZ (pZ (pZ (pZ (pZ (pZ (pZ hsz)))))))))))))) (by decide)) (load45 (kc hP W hW))) ?_
  refine n_take (i := 16) (d := some 70) (v := (.pointer (some ⟨gP, oP + 0 * 3, none⟩))) h16 (wanted_yes rfl h10 rfl (pO (by decide) (pO (by decide) (pO (by decide) (pO (by decide) (pO (by decide) (pS (pZ (pZ (pZ (pZ (pZ (pZ (pZ (pZ (pZ (pZ hsz)))))))))) (by decide)))))))) rfl (fun W hW => x_index rfl (pS (pZ (pZ (pZ (pZ (pZ (pZ (pZ (pZ (pZ (pZ (pZ (pZ (pZ (pZ (pZ hsz))))))))))))))) (by decide)) rfl (run_idx45 W gP oP m cb 0 hm)) ?_
  refine n_take (i := 17) (d := some 71) (v := (.pointer (some ⟨gP, oP + 0 * 3, none⟩))) h17 (wanted_yes rfl h10 rfl (pO (by decide) (pO (by decide) (pO (by decide) (pO (by decide) (pO (by decide) (pO (by decide) (pS (pZ (pZ (pZ (pZ (pZ (pZ (pZ (pZ (pZ (pZ hsz)))))))))) (by decide))))))))) rfl (fun W hW => x_field rfl (pS (pZ (pZ (pZ (pZ (pZ (pZ (pZ (pZ (pZ (pZ (pZ (pZ (pZ (pZ (pZ (pZ hsz)))))))))))))))) (by decide)) (field58 W gP _)) ?_
  refine n_take (i := 18) (d := some 72) (v := (.pointer (some ⟨gP, oP + 0 * 3, none⟩))) h18 (wanted_yes rfl h10 rfl (pO (by decide) (pO (by decide) (pO (by decide) (pO (by decide) (pO (by decide) (pO (by decide) (pO (by decide) (pS (pZ (pZ (pZ (pZ (pZ (pZ (pZ (pZ (pZ (pZ hsz)))))))))) (by decide)))))))))) rfl (fun W hW => x_field rfl (pS (pZ (pZ (pZ (pZ (pZ (pZ (pZ (pZ (pZ (pZ (pZ (pZ (pZ (pZ (pZ (pZ (pZ hsz))))))))))))))))) (by decide)) (field38 W gP _)) ?_
  refine n_take (i := 19) (d := some 73) (v := (.int .i64 f)) h19 (wanted_yes rfl h10 rfl (pO (by decide) (pO (by decide) (pO (by decide) (pO (by decide) (pO (by decide) (pO (by decide) (pO (by decide) (pO (by decide) (pS (pZ (pZ (pZ (pZ (pZ (pZ (pZ (pZ (pZ (pZ hsz)))))))))) (by decide))))))))))) rfl (fun W hW => exec_load rfl (pS (pZ (pZ (pZ (pZ (pZ (pZ (pZ (pZ (pZ (pZ (pZ (pZ (pZ (pZ (pZ (pZ (pZ (pZ hsz)))))))))))))))))) (by decide)) (load3 (kc hf W hW))) ?_
  refine n_take (i := 20) (d := some 74) (v := (.slice (some ⟨gD, 0, none⟩) n c)) h20 (wanted_yes rfl h10 rfl (pO (by decide) (pO (by decide) (pO (by decide) (pO (by decide) (pO (by decide) (pO (by decide) (pO (by decide) (pO (by decide) (pO (by decide) (pS (pZ (pZ (pZ (pZ (pZ (pZ (pZ (pZ (pZ (pZ hsz)))))))))) (by decide)))))))))))) rfl (fun W hW => x_move rfl (pO (by decide) (pO (by decide) (pO (by decide) (pO (by decide) (pO (by decide) (pO (by decide) (pO (by decide) (pO (by decide) (pO (by decide) (pO (by decide) (pO (by decide) (pO (by decide) (pO (by decide) (pO (by decide) (pO (by decide) (pO (by decide) (pO (by decide) (pO (by decide) (pO (by decide) (pO (by decide) e7))))))))))))))))))))) ?_
  refine n_take (i := 21) (d := some 75) (v := (.int .i64 i)) h21 (wanted_yes rfl h10 rfl (pO (by decide) (pO (by decide) (pO (by decide) (pO (by decide) (pO (by decide) (pO (by decide) (pO (by decide) (pO (by decide) (pO (by decide) (pO (by decide) (pS (pZ (pZ (pZ (pZ (pZ (pZ (pZ (pZ (pZ (pZ hsz)))))))))) (by decide))))))))))))) rfl (fun W hW => x_move rfl (pO (by decide) (pO (by decide) (pO (by decide) (pO (by decide) (pO (by decide) (pO (by decide) (pO (by decide) (pO (by decide) (pO (by decide) (pO (by decide) (pO (by decide) (pO (by decide) (pO (by decide) (pO (by decide) (pO (by decide) (pO (by decide) (pO (by decide) (pO (by decide) (pO (by decide) (pO (by decide) (pO (by decide) e10)))))))))))))))))))))) ?_
  refine n_take (i := 22) (d := some 76) (v := (.int .i64 i1)) h22 (wanted_yes rfl h10 rfl (pO (by decide) (pO (by decide) (pO (by decide) (pO (by decide) (pO (by decide) (pO (by decide) (pO (by decide) (pO (by decide) (pO (by decide) (pO (by decide) (pO (by decide) (pS (pZ (pZ (pZ (pZ (pZ (pZ (pZ (pZ (pZ (pZ hsz)))))))))) (by decide)))))))))))))) rfl (fun W hW => x_bin rfl (pS (pZ (pZ (pZ (pZ (pZ (pZ (pZ (pZ (pZ (pZ (pZ (pZ (pZ (pZ (pZ (pZ (pZ (pZ (pZ (pZ (pZ hsz))))))))))))))))))))) (by decide)) rfl (sub_one W i i1 hi1 (by omega))) ?_
  refine n_take (i := 23) (d := some 77) (v := (.pointer (some ⟨gD, i1 * 3, none⟩))) h23 (wanted_yes rfl h10 rfl (pO (by decide) (pO (by decide) (pO (by decide) (pO (by decide) (pO (by decide) (pO (by decide) (pO (by decide) (pO (by decide) (pO (by decide) (pO (by decide) (pO (by decide) (pO (by decide) (pS (pZ (pZ (pZ (pZ (pZ (pZ (pZ (pZ (pZ (pZ hsz)))))))))) (by decide))))))))))))))) rfl (fun W hW => x_index rfl (pO (by decide) (pO (by decide) (pS (pZ (pZ (pZ (pZ (pZ (pZ (pZ (pZ (pZ (pZ (pZ (pZ (pZ (pZ (pZ (pZ (pZ (pZ (pZ (pZ hsz)))))))))))))))))))) (by decide)))) (pS (pZ (pZ (pZ (pZ (pZ (pZ (pZ (pZ (pZ (pZ (pZ (pZ (pZ (pZ (pZ (pZ (pZ (pZ (pZ (pZ (pZ (pZ hsz)))))))))))))))))))))) (by decide)) (run_idx49 W gD n c i1 (by omega))) ?_
  refine n_take (i := 24) (d := some 78) (v := (.pointer (some ⟨gD, i1 * 3 + 2, none⟩))) h24 (wanted_yes rfl h10 rfl (pO (by decide) (pO (by decide) (pO (by decide) (pO (by decide) (pO (by decide) (pO (by decide) (pO (by decide) (pO (by decide) (pO (by decide) (pO (by decide) (pO (by decide) (pO (by decide) (pO (by decide) (pS (pZ (pZ (pZ (pZ (pZ (pZ (pZ (pZ (pZ (pZ hsz)))))))))) (by decide)))))))))))))))) rfl (fun W hW => x_field rfl (pS (pZ (pZ (pZ (pZ (pZ (pZ (pZ (pZ (pZ (pZ (pZ (pZ (pZ (pZ (pZ (pZ (pZ (pZ (pZ (pZ (pZ (pZ (pZ hsz))))))))))))))))))))))) (by decide)) (field55 W gD _)) ?_
  refine n_take (i := 25) (d := some 79) (v := (.slice (some ⟨gQ, oQ, none⟩) m1 cb1)) h25 (wanted_yes rfl h10 rfl (pO (by decide) (pO (by decide) (pO (by decide) (pO (by decide) (pO (by decide) (pO (by decide) (pO (by decide) (pO (by decide) (pO (by decide) (pO (by decide) (pO (by decide) (pO (by decide) (pO (by decide) (pO (by decide) (pS (pZ (pZ (pZ (pZ (pZ (pZ (pZ (pZ (pZ (pZ hsz)))))))))) (by decide))))))))))))))))) rfl (fun W hW => exec_load rfl (pS (pZ (pZ (pZ (pZ (pZ (pZ (pZ (pZ (pZ (pZ (pZ (pZ (pZ (pZ (pZ (pZ (pZ (pZ (pZ (pZ (pZ (pZ (pZ (pZ hsz)))))))))))))))))))))))) (by decide)) (load45 (kc hP1 W hW))) ?_
  refine n_take (i := 26) (d := some 80) (v := (.pointer (some ⟨gQ, oQ + 0 * 3, none⟩))) h26 (wanted_yes rfl h10 rfl (pO (by decide) (pO (by decide) (pO (by decide) (pO (by decide) (pO (by decide) (pO (by decide) (pO (by decide) (pO (by decide) (pO (by decide) (pO (by decide) (pO (by decide) (pO (by decide) (pO (by decide) (pO (by decide) (pO (by decide) (pS (pZ (pZ (pZ (pZ (pZ (pZ (pZ (pZ (pZ (pZ hsz)))))))))) (by decide)))))))))))))))))) rfl (fun W hW => x_index rfl (pS (pZ (pZ (pZ (pZ (pZ (pZ (pZ (pZ (pZ (pZ (pZ (pZ (pZ (pZ (pZ (pZ (pZ (pZ (pZ (pZ (pZ (pZ (pZ (pZ (pZ hsz))))))))))))))))))))))))) (by decide)) rfl (run_idx45 W gQ oQ m1 cb1 0 hm1)) ?_
  refine n_take (i := 27) (d := some 81) (v := (.pointer (some ⟨gQ, oQ + 0 * 3, none⟩))) h27 (wanted_yes rfl h10 rfl (pO (by decide) (pO (by decide) (pO (by decide) (pO (by decide) (pO (by decide) (pO (by decide) (pO (by decide) (pO (by decide) (pO (by decide) (pO (by decide) (pO (by decide) (pO (by decide) (pO (by decide) (pO (by decide) (pO (by decide) (pO (by decide) (pS (pZ (pZ (pZ (pZ (pZ (pZ (pZ (pZ (pZ (pZ hsz)))))))))) (by decide))))))))))))))))))) rfl (fun W hW => x_field rfl (pS (pZ (pZ (pZ (pZ (pZ (pZ (pZ (pZ (pZ (pZ (pZ (pZ (pZ (pZ (pZ (pZ (pZ (pZ (pZ (pZ (pZ (pZ (pZ (pZ (pZ (pZ hsz)))))))))))))))))))))))))) (by decide)) (field58 W gQ _)) ?_
  refine n_take (i := 28) (d := some 82) (v := (.pointer (some ⟨gQ, oQ + 0 * 3, none⟩))) h28 (wanted_yes rfl h10 rfl (pO (by decide) (pO (by decide) (pO (by decide) (pO (by decide) (pO (by decide) (pO (by decide) (pO (by decide) (pO (by decide) (pO (by decide) (pO (by decide) (pO (by decide) (pO (by decide) (pO (by decide) (pO (by decide) (pO (by decide) (pO (by decide) (pO (by decide) (pS (pZ (pZ (pZ (pZ (pZ (pZ (pZ (pZ (pZ (pZ hsz)))))))))) (by decide)))))))))))))))))))) rfl (fun W hW => x_field rfl (pS (pZ (pZ (pZ (pZ (pZ (pZ (pZ (pZ (pZ (pZ (pZ (pZ (pZ (pZ (pZ (pZ (pZ (pZ (pZ (pZ (pZ (pZ (pZ (pZ (pZ (pZ (pZ hsz))))))))))))))))))))))))))) (by decide)) (field38 W gQ _)) ?_
  refine n_take (i := 29) (d := some 83) (v := (.int .i64 fb)) h29 (wanted_yes rfl h10 rfl (pO (by decide) (pO (by decide) (pO (by decide) (pO (by decide) (pO (by decide) (pO (by decide) (pO (by decide) (pO (by decide) (pO (by decide) (pO (by decide) (pO (by decide) (pO (by decide) (pO (by decide) (pO (by decide) (pO (by decide) (pO (by decide) (pO (by decide) (pO (by decide) (pS (pZ (pZ (pZ (pZ (pZ (pZ (pZ (pZ (pZ (pZ hsz)))))))))) (by decide))))))))))))))))))))) rfl (fun W hW => exec_load rfl (pS (pZ (pZ (pZ (pZ (pZ (pZ (pZ (pZ (pZ (pZ (pZ (pZ (pZ (pZ (pZ (pZ (pZ (pZ (pZ (pZ (pZ (pZ (pZ (pZ (pZ (pZ (pZ (pZ hsz)))))))))))))))))))))))))))) (by decide)) (load3 (kc hfb W hW))) ?_
  refine n_take (i := 30) (d := some 84) (v := (.bool false)) h30 (wanted_yes rfl h10 rfl (pO (by decide) (pO (by decide) (pO (by decide) (pO (by decide) (pO (by decide) (pO (by decide) (pO (by decide) (pO (by decide) (pO (by decide) (pO (by decide) (pO (by decide) (pO (by decide) (pO (by decide) (pO (by decide) (pO (by decide) (pO (by decide) (pO (by decide) (pO (by decide) (pO (by decide) (pS (pZ (pZ (pZ (pZ (pZ (pZ (pZ (pZ (pZ (pZ hsz)))))))))) (by decide)))))))))))))))))))))) rfl (fun W hW => x_bin rfl (pO (by decide) (pO (by decide) (pO (by decide) (pO (by decide) (pO (by decide) (pO (by decide) (pO (by decide) (pO (by decide) (pO (by decide) (pO (by decide) (pS (pZ (pZ (pZ (pZ (pZ (pZ (pZ (pZ (pZ (pZ (pZ (pZ (pZ (pZ (pZ (pZ (pZ (pZ (pZ hsz))))))))))))))))))) (by decide)))))))))))) (pS (pZ (pZ (pZ (pZ (pZ (pZ (pZ (pZ (pZ (pZ (pZ (pZ (pZ (pZ (pZ (pZ (pZ (pZ (pZ (pZ (pZ (pZ (pZ (pZ (pZ (pZ (pZ (pZ (pZ hsz))))))))))))))))))))))))))))) (by decide)) (leq_intF W _ _ (by omega))) ?_
  refine n_take (i := 31) (d := some 85) (v := (.bool false)) h31 (wanted_yes rfl h7 rfl (pO (by decide) (pO (by decide) (pO (by decide) (pO (by decide) (pO (by decide) (pO (by decide) (pO (by decide) (pO (by decide) (pO (by decide) (pO (by decide) (pO (by decide) (pO (by decide) (pO (by decide) (pO (by decide) (pO (by decide) (pO (by decide) (pO (by decide) (pO (by decide) (pO (by decide) (pO (by decide) (pO (by decide) (pO (by decide) (pO (by decide) (pS (pZ (pZ (pZ (pZ (pZ (pZ (pZ hsz))))))) (by decide)))))))))))))))))))))))))) rfl (fun W hW => x_pickT rfl (pO (by decide) (pO (by decide) (pO (by decide) (pO (by decide) (pO (by decide) (pO (by decide) (pO (by decide) (pO (by decide) (pO (by decide) (pO (by decide) (pO (by decide) (pO (by decide) (pO (by decide) (pO (by decide) (pO (by decide) (pO (by decide) (pO (by decide) (pO (by decide) (pO (by decide) (pO (by decide) (pS (pZ (pZ (pZ (pZ (pZ (pZ (pZ (pZ (pZ (pZ hsz)))))))))) (by decide)))))))))))))))))))))) (pS (pZ (pZ (pZ (pZ (pZ (pZ (pZ (pZ (pZ (pZ (pZ (pZ (pZ (pZ (pZ (pZ (pZ (pZ (pZ (pZ (pZ (pZ (pZ (pZ (pZ (pZ (pZ (pZ (pZ (pZ hsz)))))))))))))))))))))))))))))) (by decide))) ?_
  refine n_take (i := 32) (d := some 86) (v := (.bool false)) h32 (wanted_none rfl) rfl (fun W hW => x_pickF rfl (pO (by decide) (pO (by decide) (pO (by decide) (pO (by decide) (pO (by decide) (pO (by decide) (pO (by decide) (pO (by decide) (pO (by decide) (pO (by decide) (pO (by decide) (pO (by decide) (pO (by decide) (pO (by decide) (pO (by decide) (pO (by decide) (pO (by decide) (pO (by decide) (pO (by decide) (pO (by decide) (pO (by decide) (pO (by decide) (pO (by decide) (pO (by decide) (pS (pZ (pZ (pZ (pZ (pZ (pZ (pZ hsz))))))) (by decide)))))))))))))))))))))))))) (pS (pZ (pZ (pZ (pZ (pZ (pZ (pZ (pZ (pZ (pZ (pZ (pZ (pZ (pZ (pZ (pZ (pZ (pZ (pZ (pZ (pZ (pZ (pZ (pZ (pZ (pZ (pZ (pZ (pZ (pZ (pZ hsz))))))))))))))))))))))))))))))) (by decide))) ?_
  refine n_done ?_
  exact K _ _ _ _ _ _ _ _ _ _ _ _ _ _ _ _ _ _ _ _ _ _ _ _ _ _ _ _ _ _ _ _ _ (Lib.hid hB0)
set_option maxHeartbeats 1600000 in
theorem div19a {ops : Array Oper} {Q : Exit → Act → World → Prop} {a : Act} {w : World} (id : Nat) {y0 y1 y2 y3 y4 y5 y6 y7 y8 y9 y10 y11 y12 y13 y14 y15 y16 y17 y18 : TypeId} {q0 q1 q2 q3 q4 q5 q6 q7 q8 q9 q10 q11 q12 q13 q14 q15 q16 q17 q18 : String} {f0 f1 f2 f3 f4 f5 f6 f7 f8 f9 f10 f11 f12 f13 f14 f15 f16 f17 f18 : Array Edge} (hok : regT ops (.cons 0 true (.cons 1 true (.cons 2 true (.cons 3 true (.cons 4 true (.cons 5 true (.cons 6 true (.cons 7 true (.cons 8 true (.cons 9 true (.cons 10 true (.cons 11 true (.cons 12 true (.cons 13 true (.cons 14 true (.cons 15 true (.cons 16 true (.cons 17 true (.cons 18 true .nil))))))))))))))))))) = true)
    (h0 : ops[0]? = some ⟨(some 103), .move (.tmp 12), y0, q0, f0, none⟩) (h1 : ops[1]? = some ⟨(some 104), .move (.tmp 103), y1, q1, f1, none⟩) (h2 : ops[2]? = some ⟨(some 105), .move (.tmp 6), y2, q2, f2, (some (1, false))⟩) (h3 : ops[3]? = some ⟨(some 106), .move (.tmp 13), y3, q3, f3, (some (1, false))⟩) (h4 : ops[4]? = some ⟨(some 107), .indexAddr 45 (.tmp 105) (.tmp 106), y4, q4, f4, (some (1, false))⟩) (h5 : ops[5]? = some ⟨(some 108), .fieldAddr 58 (.tmp 107) 0, y5, q5, f5, (some (1, false))⟩) (h6 : ops[6]? = some ⟨(some 109), .load 38 (.tmp 108), y6, q6, f6, (some (1, false))⟩) (h7 : ops[7]? = some ⟨(some 110), .move (.tmp 7), y7, q7, f7, (some (1, false))⟩) (h8 : ops[8]? = some ⟨(some 111), .move (.tmp 10), y8, q8, f8, (some (1, false))⟩) (h9 : ops[9]? = some ⟨(some 112), .indexAddr 49 (.tmp 110) (.tmp 111), y9, q9, f9, (some (1, false))⟩) (h10 : ops[10]? = some ⟨(some 113), .fieldAddr 55 (.tmp 112) 2, y10, q10, f10, (some (1, false))⟩) (h11 : ops[11]? = some ⟨(some 114), .load 45 (.tmp 113), y11, q11, f11, (some (1, false))⟩) (h12 : ops[12]? = some ⟨(some 115), .move (.tmp 11), y12, q12, f12, (some (1, false))⟩) (h13 : ops[13]? = some ⟨(some 116), .indexAddr 45 (.tmp 114) (.tmp 115), y13, q13, f13, (some (1, false))⟩) (h14 : ops[14]? = some ⟨(some 117), .fieldAddr 58 (.tmp 116) 0, y14, q14, f14, (some (1, false))⟩) (h15 : ops[15]? = some ⟨(some 118), .load 38 (.tmp 117), y15, q15, f15, (some (1, false))⟩) (h16 : ops[16]? = some ⟨(some 119), .binOp .eql 38 (.tmp 109) (.tmp 118) 38, y16, q16, f16, (some (1, false))⟩) (h17 : ops[17]? = some ⟨(some 120), .pick (.tmp 104) (.const (.bool true)) (.tmp 119), y17, q17, f17, none⟩) (h18 : ops[18]? = some ⟨(some 12), .assign (.tmp 120), y18, q18, f18, none⟩)
    (hsz : 160 ≤ a.tmps.size) (hQ : ∀ c a (d : Nat) v w, Q (.panic c) (a.put (some d) v) w → Q (.panic c) a w) (e12 : a.eval (.tmp 12) = (.bool true))
    (K : ∀ z0 z1 z2 z3 z4 z5 z6 z7 z8 z9 z10 z11 z12 z13 z14 z15 z16 z17 w', Hid (Bel w w') → Q .normal (((((((((((((((((((a.put (some 103) z0).put (some 104) z1).put (some 105) z2).put (some 106) z3).put (some 107) z4).put (some 108) z5).put (some 109) z6).put (some 110) z7).put (some 111) z8).put (some 112) z9).put (some 113) z10).put (some 114) z11).put (some 115) z12).put (some 116) z13).put (some 117) z14).put (some 118) z15).put (some 119) z16).put (some 120) z17).put (some 12) (.bool true)) w') : (Code.region id ops true).wp Try.prog Q a w := by
  have kc : ∀ {p : Addr} {v : Value}, w.cell? p = some v → ∀ W, Bel w.drew W → W.cell? p = some v := fun {p} {v} h W hW => (hW.cell (p := p) (World.block_lt_of_cell? w.drew _ h)).trans h
  have hB0 := Bel.drew w
  refine wp_region_WN (by kernel_rfl) hok hQ ?_
  refine n_take (i := 0) (d := some 103) (v := (.bool true)) h0 (wanted_none rfl) rfl (fun W hW => x_move rfl e12) ?_
  refine n_take (i := 1) (d := some 104) (v := (.bool true)) h1 (wanted_none rfl) rfl (fun W hW => x_move rfl (pS hsz (by decide))) ?_
  refine n_skip (i := 2) (d := some 105) h2 (wanted_no rfl h1 rfl (pS (pZ hsz) (by decide))) rfl ?_
  refine n_skip (i := 3) (d := some 106) h3 (wanted_no rfl h1 rfl (pO (by decide) (pS (pZ hsz) (by decide)))) rfl ?_
  refine n_skip (i := 4) (d := some 107) h4 (wanted_no rfl h1 rfl (pO (by decide) (pO (by decide) (pS (pZ hsz) (by decide))))) rfl ?_
  refine n_skip (i := 5) (d := some 108) h5 (wanted_no rfl h1 rfl (pO (by decide) (pO (by decide) (pO (by decide) (pS (pZ hsz) (by decide)))))) rfl ?_
  refine n_skip (i := 6) (d := some 109) h6 (wanted_no rfl h1 rfl (pO (by decide) (pO (by decide) (pO (by decide) (pO (by decide) (pS (pZ hsz) (by decide))))))) rfl ?_
  refine n_skip (i := 7) (d := some 110) h7 (wanted_no rfl h1 rfl (pO (by decide) (pO (by decide) (pO (by decide) (pO (by decide) (pO (by decide) (pS (pZ hsz) (by decide)))))))) rfl ?_
  refine n_skip (i := 8) (d := some 111) h8 (wanted_no rfl h1 rfl (pO (by decide) (pO (by decide) (pO (by decide) (pO (by decide) (pO (by decide) (pO (by decide) (pS (pZ hsz) (by decide))))))))) rfl ?_
  refine n_skip (i := 9) (d := some 112) h9 (wanted_no rfl h1 rfl (pO (by decide) (pO (by decide) (pO (by decide) (pO (by decide) (pO (by decide) (pO (by decide) (pO (by decide) (pS (pZ hsz) (by decide)))))))))) rfl ?_
  refine n_skip (i := 10) (d := some 113) h10 (wanted_no rfl h1 rfl (pO (by decide) (pO (by decide) (pO (by decide) (pO (by decide) (pO (by decide) (pO (by decide) (pO (by decide) (pO (by decide) (pS (pZ hsz) (by decide))))))))))) rfl ?_
  refine n_skip (i := 11) (d := some 114) h11 (wanted_no rfl h1 rfl (pO (by decide) (pO (by decide) (pO (by decide) (pO (by decide) (pO (by decide) (pO (by decide) (pO (by decide) (pO (by decide) (pO (by decide) (pS (pZ hsz) (by decide)))))))))))) rfl ?_
  refine n_skip (i := 12) (d := some 115) h12 (wanted_no rfl h1 rfl (pO (by decide) (pO (by decide) (pO (by decide) (pO (by decide) (pO (by decide) (pO (by decide) (pO (by decide) (pO (by decide) (pO (by decide) (pO (by decide) (pS (pZ hsz) (by decide))))))))))))) rfl ?_
  refine n_skip (i := 13) (d := some 116) h13 (wanted_no rfl h1 rfl (pO (by decide) (pO (by decide) (pO (by decide) (pO (by decide) (pO (by decide) (pO (by decide) (pO (by decide) (pO (by decide) (pO (by decide) (pO (by decide) (pO (by decide) (pS (pZ hsz) (by decide)))))))))))))) rfl ?_
  refine n_skip (i := 14) (d := some 117) h14 (wanted_no rfl h1 rfl (pO (by decide) (pO (by decide) (pO (by decide) (pO (by decide) (pO (by decide) (pO (by decide) (pO (by decide) (pO (by decide) (pO (by decide) (pO (by decide) (pO (by decide) (pO (by decide) (pS (pZ hsz) (by decide))))))))))))))) rfl ?_
  refine n_skip (i := 15) (d := some 118) h15 (wanted_no rfl h1 rfl (pO (by decide) (pO (by decide) (pO (by decide) (pO (by decide) (pO (by decide) (pO (by decide) (pO (by decide) (pO (by decide) (pO (by decide) (pO (by decide) (pO (by decide) (pO (by decide) (pO (by decide) (pS (pZ hsz) (by decide)))))))))))))))) rfl ?_
  refine n_skip (i := 16) (d := some 119) h16 (wanted_no rfl h1 rfl (pO (by decide) (pO (by decide) (pO (by decide) (pO (by decide) (pO (by decide) (pO (by decide) (pO (by decide) (pO (by decide) (pO (by decide) (pO (by decide) (pO (by decide) (pO (by decide) (pO (by decide) (pO (by decide) (pS (pZ hsz) (by decide))))))))))))))))) rfl ?_
  refine n_take (i := 17) (d := some 120) (v := (.bool true)) h17 (wanted_none rfl) rfl (fun W hW => x_pickT rfl (pO (by decide) (pO (by decide) (pO (by decide) (pO (by decide) (pO (by decide) (pO (by decide) (pO (by decide) (pO (by decide) (pO (by decide) (pO (by decide) (pO (by decide) (pO (by decide) (pO (by decide) (pO (by decide) (pO (by decide) (pS (pZ hsz) (by decide))))))))))))))))) rfl) ?_
  refine n_take (i := 18) (d := some 12) (v := (.bool true)) h18 (wanted_none rfl) rfl (fun W hW => x_assign rfl (pS (pZ (pZ (pZ (pZ (pZ (pZ (pZ (pZ (pZ (pZ (pZ (pZ (pZ (pZ (pZ (pZ (pZ hsz))))))))))))))))) (by decide))) ?_
  refine n_done ?_
  exact K _ _ _ _ _ _ _ _ _ _ _ _ _ _ _ _ _ _ _ (Lib.hid hB0)
set_option maxHeartbeats 1600000 in
theorem div19b {ops : Array Oper} {Q : Exit → Act → World → Prop} {a : Act} {w : World} (id : Nat) {y0 y1 y2 y3 y4 y5 y6 y7 y8 y9 y10 y11 y12 y13 y14 y15 y16 y17 y18 : TypeId} {q0 q1 q2 q3 q4 q5 q6 q7 q8 q9 q10 q11 q12 q13 q14 q15 q16 q17 q18 : String} {f0 f1 f2 f3 f4 f5 f6 f7 f8 f9 f10 f11 f12 f13 f14 f15 f16 f17 f18 : Array Edge} (hok : regT ops (.cons 0 true (.cons 1 true (.cons 2 true (.cons 3 true (.cons 4 true (.cons 5 true (.cons 6 true (.cons 7 true (.cons 8 true (.cons 9 true (.cons 10 true (.cons 11 true (.cons 12 true (.cons 13 true (.cons 14 true (.cons 15 true (.cons 16 true (.cons 17 true (.cons 18 true .nil))))))))))))))))))) = true)
    (h0 : ops[0]? = some ⟨(some 103), .move (.tmp 12), y0, q0, f0, none⟩) (h1 : ops[1]? = some ⟨(some 104), .move (.tmp 103), y1, q1, f1, none⟩) (h2 : ops[2]? = some ⟨(some 105), .move (.tmp 6), y2, q2, f2, (some (1, false))⟩) (h3 : ops[3]? = some ⟨(some 106), .move (.tmp 13), y3, q3, f3, (some (1, false))⟩) (h4 : ops[4]? = some ⟨(some 107), .indexAddr 45 (.tmp 105) (.tmp 106), y4, q4, f4, (some (1, false))⟩) (h5 : ops[5]? = some ⟨(some 108), .fieldAddr 58 (.tmp 107) 0, y5, q5, f5, (some (1, false))⟩) (h6 : ops[6]? = some ⟨(some 109), .load 38 (.tmp 108), y6, q6, f6, (some (1, false))⟩) (h7 : ops[7]? = some ⟨(some 110), .move (.tmp 7), y7, q7, f7, (some (1, false))⟩) (h8 : ops[8]? = some ⟨(some 111), .move (.tmp 10), y8, q8, f8, (some (1, false))⟩) (h9 : ops[9]? = some ⟨(some 112), .indexAddr 49 (.tmp 110) (.tmp 111), y9, q9, f9, (some (1, false))⟩) (h10 : ops[10]? = some ⟨(some 113), .fieldAddr 55 (.tmp 112) 2, y10, q10, f10, (some (1, false))⟩) (h11 : ops[11]? = some ⟨(some 114), .load 45 (.tmp 113), y11, q11, f11, (some (1, false))⟩) (h12 : ops[12]? = some ⟨(some 115), .move (.tmp 11), y12, q12, f12, (some (1, false))⟩) (h13 : ops[13]? = some ⟨(some 116), .indexAddr 45 (.tmp 114) (.tmp 115), y13, q13, f13, (some (1, false))⟩) (h14 : ops[14]? = some ⟨(some 117), .fieldAddr 58 (.tmp 116) 0, y14, q14, f14, (some (1, false))⟩) (h15 : ops[15]? = some ⟨(some 118), .load 38 (.tmp 117), y15, q15, f15, (some (1, false))⟩) (h16 : ops[16]? = some ⟨(some 119), .binOp .eql 38 (.tmp 109) (.tmp 118) 38, y16, q16, f16, (some (1, false))⟩) (h17 : ops[17]? = some ⟨(some 120), .pick (.tmp 104) (.const (.bool true)) (.tmp 119), y17, q17, f17, none⟩) (h18 : ops[18]? = some ⟨(some 12), .assign (.tmp 120), y18, q18, f18, none⟩)
    (hsz : 160 ≤ a.tmps.size) (hQ : ∀ c a (d : Nat) v w, Q (.panic c) (a.put (some d) v) w → Q (.panic c) a w) {gL oL ln lc q gD n c i gP oP m cb j : Nat} {lf lt f t : Int} (e12 : a.eval (.tmp 12) = (.bool false)) (e6 : a.eval (.tmp 6) = (.slice (some ⟨gL, oL, none⟩) ln lc)) (e13 : a.eval (.tmp 13) = (.int .i64 q)) (e7 : a.eval (.tmp 7) = (.slice (some ⟨gD, 0, none⟩) n c)) (e10 : a.eval (.tmp 10) = (.int .i64 i)) (e11 : a.eval (.tmp 11) = (.int .i64 j)) (hq : q < ln) (hi : i < n) (hj : j < m) (hlf : w.cell? ⟨gL, oL + q * 3, none⟩ = some (.int .i64 lf)) (hlt : w.cell? ⟨gL, oL + q * 3 + 1, none⟩ = some (.int .i64 lt)) (hP : w.cell? ⟨gD, i * 3 + 2, none⟩ = some (.slice (some ⟨gP, oP, none⟩) m cb)) (hf : w.cell? ⟨gP, oP + j * 3, none⟩ = some (.int .i64 f)) (ht : w.cell? ⟨gP, oP + j * 3 + 1, none⟩ = some (.int .i64 t))
    (K : ∀ z0 z1 z2 z3 z4 z5 z6 z7 z8 z9 z10 z11 z12 z13 z14 z15 z16 z17 w', Hid (Bel w w') → Q .normal (((((((((((((((((((a.put (some 103) z0).put (some 104) z1).put (some 105) z2).put (some 106) z3).put (some 107) z4).put (some 108) z5).put (some 109) z6).put (some 110) z7).put (some 111) z8).put (some 112) z9).put (some 113) z10).put (some 114) z11).put (some 115) z12).put (some 116) z13).put (some 117) z14).put (some 118) z15).put (some 119) z16).put (some 120) z17).put (some 12) (.bool (lf == f && lt == t))) w') : (Code.region id ops true).wp Try.prog Q a w := by
  have kc : ∀ {p : Addr} {v : Value}, w.cell? p = some v → ∀ W, Bel w.drew W → W.cell? p = some v := fun {p} {v} h W hW => (hW.cell (p := p) (World.block_lt_of_cell? w.drew _ h)).trans h
  have hB0 := Bel.drew w
  refine wp_region_WN (by kernel_rfl) hok hQ ?_
  refine n_take (i := 0) (d := some 103) (v := (.bool false)) h0 (wanted_none rfl) rfl (fun W hW => x_move rfl e12) ?_
  refine n_take (i := 1) (d := some 104) (v := (.bool false)) h1 (wanted_none rfl) rfl (fun W hW => x_move rfl (pS hsz (by decide))) ?_
  refine n_take (i := 2) (d := some 105) (v := (.slice (some ⟨gL, oL, none⟩) ln lc)) h2 (wanted_yes rfl h1 rfl (pS (pZ hsz) (by decide))) rfl (fun W hW => x_move rfl (pO (by decide) (pO (by decide) e6))) ?_
  refine n_take (i := 3) (d := some 106) (v := (.int .i64 q)) h3 (wanted_yes rfl h1 rfl (pO (by decide) (pS (pZ hsz) (by decide)))) rfl (fun W hW => x_move rfl (pO (by decide) (pO (by decide) (pO (by decide) e13)))) ?_
  refine n_take (i := 4) (d := some 107) (v := (.pointer (some ⟨gL, oL + q * 3, none⟩))) h4 (wanted_yes rfl h1 rfl (pO (by decide) (pO (by decide) (pS (pZ hsz) (by decide))))) rfl (fun W hW => x_index rfl (pO (by decide) (pS (pZ (pZ hsz)) (by decide))) (pS (pZ (pZ (pZ hsz))) (by decide)) (run_idx45 W gL oL ln lc q hq)) ?_
  refine n_take (i := 5) (d := some 108) (v := (.pointer (some ⟨gL, oL + q * 3, none⟩))) h5 (wanted_yes rfl h1 rfl (pO (by decide) (pO (by decide) (pO (by decide) (pS (pZ hsz) (by decide)))))) rfl (fun W hW => x_field rfl (pS (pZ (pZ (pZ (pZ hsz)))) (by decide)) (field58 W gL _)) ?_
  refine n_take (i := 6) (d := some 109) (v := (.agg #[.int .i64 lf, .int .i64 lt])) h6 (wanted_yes rfl h1 rfl (pO (by decide) (pO (by decide) (pO (by decide) (pO (by decide) (pS (pZ hsz) (by decide))))))) rfl (fun W hW => exec_load rfl (pS (pZ (pZ (pZ (pZ (pZ hsz))))) (by decide)) (load38 (kc hlf W hW) (kc hlt W hW))) ?_
  refine n_take (i := 7) (d := some 110) (v := (.slice (some ⟨gD, 0, none⟩) n c)) h7 (wanted_yes rfl h1 rfl (pO (by decide) (pO (by decide) (pO (by decide) (pO (by decide) (pO (by decide) (pS (pZ hsz) (by decide)))))))) rfl (fun W hW => x_move rfl (pO (by decide) (pO (by decide) (pO (by decide) (pO (by decide) (pO (by decide) (pO (by decide) (pO (by decide) e7)))))))) ?_
  refine n_take (i := 8) (d := some 111) (v := (.int .i64 i)) h8 (wanted_yes rfl h1 rfl (pO (by decide) (pO (by decide) (pO (by decide) (pO (by decide) (pO (by decide) (pO (by decide) (pS (pZ hsz) (by decide))))))))) rfl (fun W hW => x_move rfl (pO (by decide) (pO (by decide) (pO (by decide) (pO (by decide) (pO (by decide) (pO (by decide) (pO (by decide) (pO (by decide) e10))))))))) ?_
  refine n_take (i := 9) (d := some 112) (v := (.pointer (some ⟨gD, i * 3, none⟩))) h9 (wanted_yes rfl h1 rfl (pO (by decide) (pO (by decide) (pO (by decide) (pO (by decide) (pO (by decide) (pO (by decide) (pO (by decide) (pS (pZ hsz) (by decide)))))))))) rfl (fun W hW => x_index rfl (pO (by decide) (pS (pZ (pZ (pZ (pZ (pZ (pZ (pZ hsz))))))) (by decide))) (pS (pZ (pZ (pZ (pZ (pZ (pZ (pZ (pZ hsz)))))))) (by decide)) (run_idx49 W gD n c i hi)) ?_
  refine n_take (i := 10) (d := some 113) (v := (.pointer (some ⟨gD, i * 3 + 2, none⟩))) h10 (wanted_yes rfl h1 rfl (pO (by decide) (pO (by decide) (pO (by decide) (pO (by decide) (pO (by decide) (pO (by decide) (pO (by decide) (pO (by decide) (pS (pZ hsz) (by decide))))))))))) rfl (fun W hW => x_field rfl (pS (pZ (pZ (pZ (pZ (pZ (pZ (pZ (pZ (pZ hsz))))))))) (by decide)) (field55 W gD _)) ?_
  refine n_take (i := 11) (d := some 114) (v := (.slice (some ⟨gP, oP, none⟩) m cb)) h11 (wanted_yes rfl h1 rfl (pO (by decide) (pO (by decide) (pO (by decide) (pO (by decide) (pO (by decide) (pO (by decide) (pO (by decide) (pO (by decide) (pO (by decide) (pS (pZ hsz) (by decide)))))))))))) rfl (fun W hW => exec_load rfl (pS (pZ (pZ (pZ (pZ (pZ (pZ (pZ (pZ (pZ (pZ hsz)))))))))) (by decide)) (load45 (kc hP W hW))) ?_
  refine n_take (i := 12) (d := some 115) (v := (.int .i64 j)) h12 (wanted_yes rfl h1 rfl (pO (by decide) (pO (by decide) (pO (by decide) (pO (by decide) (pO (by decide) (pO (by decide) (pO (by decide) (pO (by decide) (pO (by decide) (pO (by decide) (pS (pZ hsz) (by decide))))))))))))) rfl (fun W hW => x_move rfl (pO (by decide) (pO (by decide) (pO (by decide) (pO (by decide) (pO (by decide) (pO (by decide) (pO (by decide) (pO (by decide) (pO (by decide) (pO (by decide) (pO (by decide) (pO (by decide) e11))))))))))))) ?_
  refine n_take (i := 13) (d := some 116) (v := (.pointer (some ⟨gP, oP + j * 3, none⟩))) h13 (wanted_yes rfl h1 rfl (pO (by decide) (pO (by decide) (pO (by decide) (pO (by decide) (pO (by decide) (pO (by decide) (pO (by decide) (pO (by decide) (pO (by decide) (pO (by decide) (pO (by decide) (pS (pZ hsz) (by decide)))))))))))))) rfl (fun W hW => x_index rfl (pO (by decide) (pS (pZ (pZ (pZ (pZ (pZ (pZ (pZ (pZ (pZ (pZ (pZ hsz))))))))))) (by decide))) (pS (pZ (pZ (pZ (pZ (pZ (pZ (pZ (pZ (pZ (pZ (pZ (pZ hsz)))))))))))) (by decide)) (run_idx45 W gP oP m cb j hj)) ?_
  refine n_take (i := 14) (d := some 117) (v := (.pointer (some ⟨gP, oP + j * 3, none⟩))) h14 (wanted_yes rfl h1 rfl (pO (by decide) (pO (by decide) (pO (by decide) (pO (by decide) (pO (by decide) (pO (by decide) (pO (by decide) (pO (by decide) (pO (by decide) (pO (by decide) (pO (by decide) (pO (by decide) (pS (pZ hsz) (by decide))))))))))))))) rfl (fun W hW => x_field rfl (pS (pZ (pZ (pZ (pZ (pZ (pZ (pZ (pZ (pZ (pZ (pZ (pZ (pZ hsz))))))))))))) (by decide)) (field58 W gP _)) ?_
  refine n_take (i := 15) (d := some 118) (v := (.agg #[.int .i64 f, .int .i64 t])) h15 (wanted_yes rfl h1 rfl (pO (by decide) (pO (by decide) (pO (by decide) (pO (by decide) (pO (by decide) (pO (by decide) (pO (by decide) (pO (by decide) (pO (by decide) (pO (by decide) (pO (by decide) (pO (by decide) (pO (by decide) (pS (pZ hsz) (by decide)))))))))))))))) rfl (fun W hW => exec_load rfl (pS (pZ (pZ (pZ (pZ (pZ (pZ (pZ (pZ (pZ (pZ (pZ (pZ (pZ (pZ hsz)))))))))))))) (by decide)) (load38 (kc hf W hW) (kc ht W hW))) ?_
  refine n_take (i := 16) (d := some 119) (v := (.bool (lf == f && lt == t))) h16 (wanted_yes rfl h1 rfl (pO (by decide) (pO (by decide) (pO (by decide) (pO (by decide) (pO (by decide) (pO (by decide) (pO (by decide) (pO (by decide) (pO (by decide) (pO (by decide) (pO (by decide) (pO (by decide) (pO (by decide) (pO (by decide) (pS (pZ hsz) (by decide))))))))))))))))) rfl (fun W hW => x_binA rfl (pO (by decide) (pO (by decide) (pO (by decide) (pO (by decide) (pO (by decide) (pO (by decide) (pO (by decide) (pO (by decide) (pO (by decide) (pS (pZ (pZ (pZ (pZ (pZ (pZ hsz)))))) (by decide))))))))))) (pS (pZ (pZ (pZ (pZ (pZ (pZ (pZ (pZ (pZ (pZ (pZ (pZ (pZ (pZ (pZ hsz))))))))))))))) (by decide)) guard38 (eql38 W _ _ _ _)) ?_
  refine n_take (i := 17) (d := some 120) (v := (.bool (lf == f && lt == t))) h17 (wanted_none rfl) rfl (fun W hW => x_pickF rfl (pO (by decide) (pO (by decide) (pO (by decide) (pO (by decide) (pO (by decide) (pO (by decide) (pO (by decide) (pO (by decide) (pO (by decide) (pO (by decide) (pO (by decide) (pO (by decide) (pO (by decide) (pO (by decide) (pO (by decide) (pS (pZ hsz) (by decide))))))))))))))))) (pS (pZ (pZ (pZ (pZ (pZ (pZ (pZ (pZ (pZ (pZ (pZ (pZ (pZ (pZ (pZ (pZ hsz)))))))))))))))) (by decide))) ?_
  refine n_take (i := 18) (d := some 12) (v := (.bool (lf == f && lt == t))) h18 (wanted_none rfl) rfl (fun W hW => x_assign rfl (pS (pZ (pZ (pZ (pZ (pZ (pZ (pZ (pZ (pZ (pZ (pZ (pZ (pZ (pZ (pZ (pZ (pZ hsz))))))))))))))))) (by decide))) ?_
  refine n_done ?_
  exact K _ _ _ _ _ _ _ _ _ _ _ _ _ _ _ _ _ _ _ (Lib.hid hB0)
set_option maxHeartbeats 1600000 in
theorem div20a {ops : Array Oper} {Q : Exit → Act → World → Prop} {a : Act} {w : World} (id : Nat) {y0 y1 y2 y3 y4 y5 y6 y7 y8 y9 y10 y11 y12 y13 y14 y15 y16 y17 y18 y19 y20 y21 y22 y23 y24 y25 y26 y27 y28 y29 : TypeId} {q0 q1 q2 q3 q4 q5 q6 q7 q8 q9 q10 q11 q12 q13 q14 q15 q16 q17 q18 q19 q20 q21 q22 q23 q24 q25 q26 q27 q28 q29 : String} {f0 f1 f2 f3 f4 f5 f6 f7 f8 f9 f10 f11 f12 f13 f14 f15 f16 f17 f18 f19 f20 f21 f22 f23 f24 f25 f26 f27 f28 f29 : Array Edge} (hok : regT ops (.cons 0 true (.cons 1 true (.cons 2 true (.cons 3 true (.cons 4 true (.cons 5 true (.cons 6 true (.cons 7 true (.cons 8 true (.cons 9 true (.cons 10 true (.cons 11 true (.cons 12 true (.cons 13 true (.cons 14 true (.cons 15 true (.cons 16 true (.cons 17 true (.cons 18 true (.cons 19 true (.cons 20 true (.cons 21 true (.cons 22 true (.cons 23 true (.cons 24 true (.cons 25 true (.cons 26 true (.cons 27 true (.cons 28 true (.cons 29 true .nil)))))))))))))))))))))))))))))) = true)
    (h0 : ops[0]? = some ⟨(some 121), .move (.tmp 12), y0, q0, f0, none⟩) (h1 : ops[1]? = some ⟨(some 122), .unOp .not 4 (.tmp 121), y1, q1, f1, none⟩) (h2 : ops[2]? = some ⟨(some 123), .move (.tmp 122), y2, q2, f2, none⟩) (h3 : ops[3]? = some ⟨(some 124), .move (.tmp 11), y3, q3, f3, (some (2, false))⟩) (h4 : ops[4]? = some ⟨(some 125), .binOp .gtr 3 (.tmp 124) (.const (.int .i64 0)) 3, y4, q4, f4, (some (2, false))⟩) (h5 : ops[5]? = some ⟨(some 126), .move (.tmp 125), y5, q5, f5, (some (2, false))⟩) (h6 : ops[6]? = some ⟨(some 127), .move (.tmp 7), y6, q6, f6, (some (5, true))⟩) (h7 : ops[7]? = some ⟨(some 128), .move (.tmp 10), y7, q7, f7, (some (5, true))⟩) (h8 : ops[8]? = some ⟨(some 129), .indexAddr 49 (.tmp 127) (.tmp 128), y8, q8, f8, (some (5, true))⟩) (h9 : ops[9]? = some ⟨(some 130), .fieldAddr 55 (.tmp 129) 2, y9, q9, f9, (some (5, true))⟩) (h10 : ops[10]? = some ⟨(some 131), .load 45 (.tmp 130), y10, q10, f10, (some (5, true))⟩) (h11 : ops[11]? = some ⟨(some 132), .move (.tmp 11), y11, q11, f11, (some (5, true))⟩) (h12 : ops[12]? = some ⟨(some 133), .indexAddr 45 (.tmp 131) (.tmp 132), y12, q12, f12, (some (5, true))⟩) (h13 : ops[13]? = some ⟨(some 134), .fieldAddr 58 (.tmp 133) 0, y13, q13, f13, (some (5, true))⟩) (h14 : ops[14]? = some ⟨(some 135), .fieldAddr 38 (.tmp 134) 0, y14, q14, f14, (some (5, true))⟩) (h15 : ops[15]? = some ⟨(some 136), .load 3 (.tmp 135), y15, q15, f15, (some (5, true))⟩) (h16 : ops[16]? = some ⟨(some 137), .move (.tmp 7), y16, q16, f16, (some (5, true))⟩) (h17 : ops[17]? = some ⟨(some 138), .move (.tmp 10), y17, q17, f17, (some (5, true))⟩) (h18 : ops[18]? = some ⟨(some 139), .indexAddr 49 (.tmp 137) (.tmp 138), y18, q18, f18, (some (5, true))⟩) (h19 : ops[19]? = some ⟨(some 140), .fieldAddr 55 (.tmp 139) 2, y19, q19, f19, (some (5, true))⟩) (h20 : ops[20]? = some ⟨(some 141), .load 45 (.tmp 140), y20, q20, f20, (some (5, true))⟩) (h21 : ops[21]? = some ⟨(some 142), .move (.tmp 11), y21, q21, f21, (some (5, true))⟩) (h22 : ops[22]? = some ⟨(some 143), .binOp .sub 3 (.tmp 142) (.const (.int .i64 1)) 3, y22, q22, f22, (some (5, true))⟩) (h23 : ops[23]? = some ⟨(some 144), .indexAddr 45 (.tmp 141) (.tmp 143), y23, q23, f23, (some (5, true))⟩) (h24 : ops[24]? = some ⟨(some 145), .fieldAddr 58 (.tmp 144) 0, y24, q24, f24, (some (5, true))⟩) (h25 : ops[25]? = some ⟨(some 146), .fieldAddr 38 (.tmp 145) 1, y25, q25, f25, (some (5, true))⟩) (h26 : ops[26]? = some ⟨(some 147), .load 3 (.tmp 146), y26, q26, f26, (some (5, true))⟩) (h27 : ops[27]? = some ⟨(some 148), .binOp .lss 3 (.tmp 136) (.tmp 147) 3, y27, q27, f27, (some (5, true))⟩) (h28 : ops[28]? = some ⟨(some 149), .pick (.tmp 126) (.tmp 148) (.const (.bool false)), y28, q28, f28, (some (2, false))⟩) (h29 : ops[29]? = some ⟨(some 150), .pick (.tmp 123) (.const (.bool true)) (.tmp 149), y29, q29, f29, none⟩)
    (hsz : 160 ≤ a.tmps.size) (hQ : ∀ c a (d : Nat) v w, Q (.panic c) (a.put (some d) v) w → Q (.panic c) a w) (e12 : a.eval (.tmp 12) = (.bool true)) (e11 : a.eval (.tmp 11) = (.int .i64 0))
    (K : ∀ z0 z1 z2 z3 z4 z5 z6 z7 z8 z9 z10 z11 z12 z13 z14 z15 z16 z17 z18 z19 z20 z21 z22 z23 z24 z25 z26 z27 z28 w', Hid (Bel w w') → Q .normal ((((((((((((((((((((((((((((((a.put (some 121) z0).put (some 122) z1).put (some 123) z2).put (some 124) z3).put (some 125) z4).put (some 126) z5).put (some 127) z6).put (some 128) z7).put (some 129) z8).put (some 130) z9).put (some 131) z10).put (some 132) z11).put (some 133) z12).put (some 134) z13).put (some 135) z14).put (some 136) z15).put (some 137) z16).put (some 138) z17).put (some 139) z18).put (some 140) z19).put (some 141) z20).put (some 142) z21).put (some 143) z22).put (some 144) z23).put (some 145) z24).put (some 146) z25).put (some 147) z26).put (some 148) z27).put (some 149) z28).put (some 150) (.bool false)) w') : (Code.region id ops true).wp Try.prog Q a w := by
  have kc : ∀ {p : Addr} {v : Value}, w.cell? p = some v → ∀ W, Bel w.drew W → W.cell? p = some v := fun {p} {v} h W hW => (hW.cell (p := p) (World.block_lt_of_cell? w.drew _ h)).trans h
  have hB0 := Bel.drew w
  refine wp_region_WN (by kernel_rfl) hok hQ ?_
  refine n_take (i := 0) (d := some 121) (v := (.bool true)) h0 (wanted_none rfl) rfl (fun W hW => x_move rfl e12) ?_
  refine n_take (i := 1) (d := some 122) (v := (.bool false)) h1 (wanted_none rfl) rfl (fun W hW => x_not rfl (pS hsz (by decide))) ?_
  refine n_take (i := 2) (d := some 123) (v := (.bool false)) h2 (wanted_none rfl) rfl (fun W hW => x_move rfl (pS (pZ hsz) (by decide))) ?_
  refine n_take (i := 3) (d := some 124) (v := (.int .i64 0)) h3 (wanted_yes rfl h2 rfl (pS (pZ (pZ hsz)) (by decide))) rfl (fun W hW => x_move rfl (pO (by decide) (pO (by decide) (pO (by decide) e11)))) ?_
  refine n_take (i := 4) (d := some 125) (v := (.bool false)) h4 (wanted_yes rfl h2 rfl (pO (by decide) (pS (pZ (pZ hsz)) (by decide)))) rfl (fun W hW => x_bin rfl (pS (pZ (pZ (pZ hsz))) (by decide)) rfl (gtr_intF W _ _ (by omega))) ?_
  refine n_take (i := 5) (d := some 126) (v := (.bool false)) h5 (wanted_yes rfl h2 rfl (pO (by decide) (pO (by decide) (pS (pZ (pZ hsz)) (by decide))))) rfl (fun W hW => x_move rfl (pS (pZ (pZ (pZ (pZ hsz)))) (by decide))) ?_
  refine n_skip (i := 6) (d := some 127) h6 (wanted_no rfl h5 rfl (pS (pZ (pZ (pZ (pZ (pZ hsz))))) (by decide))) rfl ?_
  refine n_skip (i := 7) (d := some 128) h7 (wanted_no rfl h5 rfl (pO (by decide) (pS (pZ (pZ (pZ (pZ (pZ hsz))))) (by decide)))) rfl ?_
  refine n_skip (i := 8) (d := some 129) h8 (wanted_no rfl h5 rfl (pO (by decide) (pO (by decide) (pS (pZ (pZ (pZ (pZ (pZ hsz))))) (by decide))))) rfl ?_
  refine n_skip (i := 9) (d := some 130) h9 (wanted_no rfl h5 rfl (pO (by decide) (pO (by decide) (pO (by decide) (pS (pZ (pZ (pZ (pZ (pZ hsz))))) (by decide)))))) rfl ?_
  refine n_skip (i := 10) (d := some 131) h10 (wanted_no rfl h5 rfl (pO (by decide) (pO (by decide) (pO (by decide) (pO (by decide) (pS (pZ (pZ (pZ (pZ (pZ hsz))))) (by decide))))))) rfl ?_
  refine n_skip (i := 11) (d := some 132) h11 (wanted_no rfl h5 rfl (pO (by decide) (pO (by decide) (pO (by decide) (pO (by decide) (pO (by decide) (pS (pZ (pZ (pZ (pZ (pZ hsz))))) (by decide)))))))) rfl ?_
  refine n_skip (i := 12) (d := some 133) h12 (wanted_no rfl h5 rfl (pO (by decide) (pO (by decide) (pO (by decide) (pO (by decide) (pO (by decide) (pO (by decide) (pS (pZ (pZ (pZ (pZ (pZ hsz))))) (by decide))))))))) rfl ?_
  refine n_skip (i := 13) (d := some 134) h13 (wanted_no rfl h5 rfl (pO (by decide) (pO (by decide) (pO (by decide) (pO (by decide) (pO (by decide) (pO (by decide) (pO (by decide) (pS (pZ (pZ (pZ (pZ (pZ hsz))))) (by decide)))))))))) rfl ?_
  refine n_skip (i := 14) (d := some 135) h14 (wanted_no rfl h5 rfl (pO (by decide) (pO (by decide) (pO (by decide) (pO (by decide) (pO (by decide) (pO (by decide) (pO (by decide) (pO (by decide) (pS (pZ (pZ (pZ (pZ (pZ hsz))))) (by decide))))))))))) rfl ?_
  refine n_skip (i := 15) (d := some 136) h15 (wanted_no rfl h5 rfl (pO (by decide) (pO (by decide) (pO (by decide) (pO (by decide) (pO (by decide) (pO (by decide) (pO (by decide) (pO (by decide) (pO (by decide) (pS (pZ (pZ (pZ (pZ (pZ hsz))))) (by decide)))))))))))) rfl ?_
  refine n_skip (i := 16) (d := some 137) h16 (wanted_no rfl h5 rfl (pO (by decide) (pO (by decide) (pO (by decide) (pO (by decide) (pO (by decide) (pO (by decide) (pO (by decide) (pO (by decide) (pO (by decide) (pO (by decide) (pS (pZ (pZ (pZ (pZ (pZ hsz))))) (by decide))))))))))))) rfl ?_
  refine n_skip (i := 17) (d := some 138) h17 (wanted_no rfl h5 rfl (pO (by decide) (pO (by decide) (pO (by decide) (pO (by decide) (pO (by decide) (pO (by decide) (pO (by decide) (pO (by decide) (pO (by decide) (pO (by decide) (pO (by decide) (pS (pZ (pZ (pZ (pZ (pZ hsz))))) (by decide)))))))))))))) rfl ?_
  refine n_skip (i := 18) (d := some 139) h18 (wanted_no rfl h5 rfl (pO (by decide) (pO (by decide) (pO (by decide) (pO (by decide) (pO (by decide) (pO (by decide) (pO (by decide) (pO (by decide) (pO (by decide) (pO (by decide) (pO (by decide) (pO (by decide) (pS (pZ (pZ (pZ (pZ (pZ hsz))))) (by decide))))))))))))))) rfl ?_
  refine n_skip (i := 19) (d := some 140) h19 (wanted_no rfl h5 rfl (pO (by decide) (pO (by decide) (pO (by decide) (pO (by decide) (pO (by decide) (pO (by decide) (pO (by decide) (pO (by decide) (pO (by decide) (pO (by decide) (pO (by decide) (pO (by decide) (pO (by decide) (pS (pZ (pZ (pZ (pZ (pZ hsz))))) (by decide)))))))))))))))) rfl ?_
  refine n_skip (i := 20) (d := some 141) h20 (wanted_no rfl h5 rfl (pO (by decide) (pO (by decide) (pO (by decide) (pO (by decide) (pO (by decide) (pO (by decide) (pO (by decide) (pO (by decide) (pO (by decide) (pO (by decide) (pO (by decide) (pO (by decide) (pO (by decide) (pO (by decide) (pS (pZ (pZ (pZ (pZ (pZ hsz))))) (by decide))))))))))))))))) rfl ?_
  refine n_skip (i := 21) (d := some 142) h21 (wanted_no rfl h5 rfl (pO (by decide) (pO (by decide) (pO (by decide) (pO (by decide) (pO (by decide) (pO (by decide) (pO (by decide) (pO (by decide) (pO (by decide) (pO (by decide) (pO (by decide) (pO (by decide) (pO (by decide) (pO (by decide) (pO (by decide) (pS (pZ (pZ (pZ (pZ (pZ hsz))))) (by decide)))))))))))))))))) rfl ?_
  refine n_skip (i := 22) (d := some 143) h22 (wanted_no rfl h5 rfl (pO (by decide) (pO (by decide) (pO (by decide) (pO (by decide) (pO (by decide) (pO (by decide) (pO (by decide) (pO (by decide) (pO (by decide) (pO (by decide) (pO (by decide) (pO (by decide) (pO (by decide) (pO (by decide) (pO (by decide) (pO (by decide) (pS (pZ (pZ (pZ (pZ (pZ hsz))))) (by decide))))))))))))))))))) rfl ?_
  refine n_skip (i := 23) (d := some 144) h23 (wanted_no rfl h5 rfl (pO (by decide) (pO (by decide) (pO (by decide) (pO (by decide) (pO (by decide) (pO (by decide) (pO (by decide) (pO (by decide) (pO (by decide) (pO (by decide) (pO (by decide) (pO (by decide) (pO (by decide) (pO (by decide) (pO (by decide) (pO (by decide) (pO (by decide) (pS (pZ (pZ (pZ (pZ (pZ hsz))))) (by decide)))))))))))))))))))) rfl ?_
  refine n_skip (i := 24) (d := some 145) h24 (wanted_no rfl h5 rfl (pO (by decide) (pO (by decide) (pO (by decide) (pO (by decide) (pO (by decide) (pO (by decide) (pO (by decide) (pO (by decide) (pO (by decide) (pO (by decide) (pO (by decide) (pO (by decide) (pO (by decide) (pO (by decide) (pO (by decide) (pO (by decide) (pO (by decide) (pO (by decide) (pS (pZ (pZ (pZ (pZ (pZ hsz))))) (by decide))))))))))))))))))))) rfl ?_
  refine n_skip (i := 25) (d := some 146) h25 (wanted_no rfl h5 rfl (pO (by decide) (pO (by decide) (pO (by decide) (pO (by decide) (pO (by decide) (pO (by decide) (pO (by decide) (pO (by decide) (pO (by decide) (pO (by decide) (pO (by decide) (pO (by decide) (pO (by decide) (pO (by decide) (pO (by decide) (pO (by decide) (pO (by decide) (pO (by decide) (pO (by decide) (pS (pZ (pZ (pZ (pZ (pZ hsz))))) (by decide)))))))))))))))))))))) rfl ?_
  refine n_skip (i := 26) (d := some 147) h26 (wanted_no rfl h5 rfl (pO (by decide) (pO (by decide) (pO (by decide) (pO (by decide) (pO (by decide) (pO (by decide) (pO (by decide) (pO (by decide) (pO (by decide) (pO (by decide) (pO (by decide) (pO (by decide) (pO (by decide) (pO (by decide) (pO (by decide) (pO (by decide) (pO (by decide) (pO (by decide) (pO (by decide) (pO (by decide) (pS (pZ (pZ (pZ (pZ (pZ hsz))))) (by decide))))))))))))))))))))))) rfl ?_
  refine n_skip (i := 27) (d := some 148) h27 (wanted_no rfl h5 rfl (pO (by decide) (pO (by decide) (pO (by decide) (pO (by decide) (pO (by decide) (pO (by decide) (pO (by decide) (pO (by decide) (pO (by decide) (pO (by decide) (pO (by decide) (pO (by decide) (pO (by decide) (pO (by decide) (pO (by decide) (pO (by decide) (pO (by decide) (pO (by decide) (pO (by decide) (pO (by decide) (pO (by decide) (pS (pZ (pZ (pZ (pZ (pZ hsz))))) (by decide)))))))))))))))))))))))) rfl ?_
  refine n_take (i := 28) (d := some 149) (v := (.bool false)) h28 (wanted_yes rfl h2 rfl (pO (by decide) (pO (by decide) (pO (by decide) (pO (by decide) (pO (by decide) (pO (by decide) (pO (by decide) (pO (by decide) (pO (by decide) (pO (by decide) (pO (by decide) (pO (by decide) (pO (by decide) (pO (by decide) (pO (by decide) (pO (by decide) (pO (by decide) (pO (by decide) (pO (by decide) (pO (by decide) (pO (by decide) (pO (by decide) (pO (by decide) (pO (by decide) (pO (by decide) (pS (pZ (pZ hsz)) (by decide)))))))))))))))))))))))))))) rfl (fun W hW => x_pickF rfl (pO (by decide) (pO (by decide) (pO (by decide) (pO (by decide) (pO (by decide) (pO (by decide) (pO (by decide) (pO (by decide) (pO (by decide) (pO (by decide) (pO (by decide) (pO (by decide) (pO (by decide) (pO (by decide) (pO (by decide) (pO (by decide) (pO (by decide) (pO (by decide) (pO (by decide) (pO (by decide) (pO (by decide) (pO (by decide) (pS (pZ (pZ (pZ (pZ (pZ hsz))))) (by decide)))))))))))))))))))))))) rfl) ?_
  refine n_take (i := 29) (d := some 150) (v := (.bool false)) h29 (wanted_none rfl) rfl (fun W hW => x_pickF rfl (pO (by decide) (pO (by decide) (pO (by decide) (pO (by decide) (pO (by decide) (pO (by decide) (pO (by decide) (pO (by decide) (pO (by decide) (pO (by decide) (pO (by decide) (pO (by decide) (pO (by decide) (pO (by decide) (pO (by decide) (pO (by decide) (pO (by decide) (pO (by decide) (pO (by decide) (pO (by decide) (pO (by decide) (pO (by decide) (pO (by decide) (pO (by decide) (pO (by decide) (pO (by decide) (pS (pZ (pZ hsz)) (by decide)))))))))))))))))))))))))))) (pS (pZ (pZ (pZ (pZ (pZ (pZ (pZ (pZ (pZ (pZ (pZ (pZ (pZ (pZ (pZ (pZ (pZ (pZ (pZ (pZ (pZ (pZ (pZ (pZ (pZ (pZ (pZ (pZ hsz)))))))))))))))))))))))))))) (by decide))) ?_
  refine n_done ?_
  exact K _ _ _ _ _ _ _ _ _ _ _ _ _ _ _ _ _ _ _ _ _ _ _ _ _ _ _ _ _ _ (Lib.hid hB0)
set_option maxHeartbeats 1600000 in
theorem div20b {ops : Array Oper} {Q : Exit → Act → World → Prop} {a : Act} {w : World} (id : Nat) {y0 y1 y2 y3 y4 y5 y6 y7 y8 y9 y10 y11 y12 y13 y14 y15 y16 y17 y18 y19 y20 y21 y22 y23 y24 y25 y26 y27 y28 y29 : TypeId} {q0 q1 q2 q3 q4 q5 q6 q7 q8 q9 q10 q11 q12 q13 q14 q15 q16 q17 q18 q19 q20 q21 q22 q23 q24 q25 q26 q27 q28 q29 : String} {f0 f1 f2 f3 f4 f5 f6 f7 f8 f9 f10 f11 f12 f13 f14 f15 f16 f17 f18 f19 f20 f21 f22 f23 f24 f25 f26 f27 f28 f29 : Array Edge} (hok : regT ops (.cons 0 true (.cons 1 true (.cons 2 true (.cons 3 true (.cons 4 true (.cons 5 true (.cons 6 true (.cons 7 true (.cons 8 true (.cons 9 true (.cons 10 true (.cons 11 true (.cons 12 true (.cons 13 true (.cons 14 true (.cons 15 true (.cons 16 true (.cons 17 true (.cons 18 true (.cons 19 true (.cons 20 true (.cons 21 true (.cons 22 true (.cons 23 true (.cons 24 true (.cons 25 true (.cons 26 true (.cons 27 true (.cons 28 true (.cons 29 true .nil)))))))))))))))))))))))))))))) = true)
    (h0 : ops[0]? = some ⟨(some 121), .move (.tmp 12), y0, q0, f0, none⟩) (h1 : ops[1]? = some ⟨(some 122), .unOp .not 4 (.tmp 121), y1, q1, f1, none⟩) (h2 : ops[2]? = some ⟨(some 123), .move (.tmp 122), y2, q2, f2, none⟩) (h3 : ops[3]? = some ⟨(some 124), .move (.tmp 11), y3, q3, f3, (some (2, false))⟩) (h4 : ops[4]? = some ⟨(some 125), .binOp .gtr 3 (.tmp 124) (.const (.int .i64 0)) 3, y4, q4, f4, (some (2, false))⟩) (h5 : ops[5]? = some ⟨(some 126), .move (.tmp 125), y5, q5, f5, (some (2, false))⟩) (h6 : ops[6]? = some ⟨(some 127), .move (.tmp 7), y6, q6, f6, (some (5, true))⟩) (h7 : ops[7]? = some ⟨(some 128), .move (.tmp 10), y7, q7, f7, (some (5, true))⟩) (h8 : ops[8]? = some ⟨(some 129), .indexAddr 49 (.tmp 127) (.tmp 128), y8, q8, f8, (some (5, true))⟩) (h9 : ops[9]? = some ⟨(some 130), .fieldAddr 55 (.tmp 129) 2, y9, q9, f9, (some (5, true))⟩) (h10 : ops[10]? = some ⟨(some 131), .load 45 (.tmp 130), y10, q10, f10, (some (5, true))⟩) (h11 : ops[11]? = some ⟨(some 132), .move (.tmp 11), y11, q11, f11, (some (5, true))⟩) (h12 : ops[12]? = some ⟨(some 133), .indexAddr 45 (.tmp 131) (.tmp 132), y12, q12, f12, (some (5, true))⟩) (h13 : ops[13]? = some ⟨(some 134), .fieldAddr 58 (.tmp 133) 0, y13, q13, f13, (some (5, true))⟩) (h14 : ops[14]? = some ⟨(some 135), .fieldAddr 38 (.tmp 134) 0, y14, q14, f14, (some (5, true))⟩) (h15 : ops[15]? = some ⟨(some 136), .load 3 (.tmp 135), y15, q15, f15, (some (5, true))⟩) (h16 : ops[16]? = some ⟨(some 137), .move (.tmp 7), y16, q16, f16, (some (5, true))⟩) (h17 : ops[17]? = some ⟨(some 138), .move (.tmp 10), y17, q17, f17, (some (5, true))⟩) (h18 : ops[18]? = some ⟨(some 139), .indexAddr 49 (.tmp 137) (.tmp 138), y18, q18, f18, (some (5, true))⟩) (h19 : ops[19]? = some ⟨(some 140), .fieldAddr 55 (.tmp 139) 2, y19, q19, f19, (some (5, true))⟩) (h20 : ops[20]? = some ⟨(some 141), .load 45 (.tmp 140), y20, q20, f20, (some (5, true))⟩) (h21 : ops[21]? = some ⟨(some 142), .move (.tmp 11), y21, q21, f21, (some (5, true))⟩) (h22 : ops[22]? = some ⟨(some 143), .binOp .sub 3 (.tmp 142) (.const (.int .i64 1)) 3, y22, q22, f22, (some (5, true))⟩) (h23 : ops[23]? = some ⟨(some 144), .indexAddr 45 (.tmp 141) (.tmp 143), y23, q23, f23, (some (5, true))⟩) (h24 : ops[24]? = some ⟨(some 145), .fieldAddr 58 (.tmp 144) 0, y24, q24, f24, (some (5, true))⟩) (h25 : ops[25]? = some ⟨(some 146), .fieldAddr 38 (.tmp 145) 1, y25, q25, f25, (some (5, true))⟩) (h26 : ops[26]? = some ⟨(some 147), .load 3 (.tmp 146), y26, q26, f26, (some (5, true))⟩) (h27 : ops[27]? = some ⟨(some 148), .binOp .lss 3 (.tmp 136) (.tmp 147) 3, y27, q27, f27, (some (5, true))⟩) (h28 : ops[28]? = some ⟨(some 149), .pick (.tmp 126) (.tmp 148) (.const (.bool false)), y28, q28, f28, (some (2, false))⟩) (h29 : ops[29]? = some ⟨(some 150), .pick (.tmp 123) (.const (.bool true)) (.tmp 149), y29, q29, f29, none⟩)
    (hsz : 160 ≤ a.tmps.size) (hQ : ∀ c a (d : Nat) v w, Q (.panic c) (a.put (some d) v) w → Q (.panic c) a w) {gD n c i gP oP m cb j j1 : Nat} {f t : Int} (e12 : a.eval (.tmp 12) = (.bool true)) (e7 : a.eval (.tmp 7) = (.slice (some ⟨gD, 0, none⟩) n c)) (e10 : a.eval (.tmp 10) = (.int .i64 i)) (e11 : a.eval (.tmp 11) = (.int .i64 j)) (hi : i < n) (hj : j < m) (hj1 : j = j1 + 1) (hm : m ≤ 100000) (hP : w.cell? ⟨gD, i * 3 + 2, none⟩ = some (.slice (some ⟨gP, oP, none⟩) m cb)) (hf : w.cell? ⟨gP, oP + j * 3, none⟩ = some (.int .i64 f)) (ht : w.cell? ⟨gP, oP + j1 * 3 + 1, none⟩ = some (.int .i64 t)) (hle : t ≤ f)
    (K : ∀ z0 z1 z2 z3 z4 z5 z6 z7 z8 z9 z10 z11 z12 z13 z14 z15 z16 z17 z18 z19 z20 z21 z22 z23 z24 z25 z26 z27 z28 w', Hid (Bel w w') → Q .normal ((((((((((((((((((((((((((((((a.put (some 121) z0).put (some 122) z1).put (some 123) z2).put (some 124) z3).put (some 125) z4).put (some 126) z5).put (some 127) z6).put (some 128) z7).put (some 129) z8).put (some 130) z9).put (some 131) z10).put (some 132) z11).put (some 133) z12).put (some 134) z13).put (some 135) z14).put (some 136) z15).put (some 137) z16).put (some 138) z17).put (some 139) z18).put (some 140) z19).put (some 141) z20).put (some 142) z21).put (some 143) z22).put (some 144) z23).put (some 145) z24).put (some 146) z25).put (some 147) z26).put (some 148) z27).put (some 149) z28).put (some 150) (.bool false)) w') : (Code.region id ops true).wp Try.prog Q a w := by
  have kc : ∀ {p : Addr} {v : Value}, w.cell? p = some v → ∀ W, Bel w.drew W → W.cell? p = some v := fun {p} {v} h W hW => (hW.cell (p := p) (World.block_lt_of_cell? w.drew _ h)).trans h
  have hB0 := Bel.drew w
  refine wp_region_WN (by kernel_rfl) hok hQ ?_
  refine n_take (i := 0) (d := some 121) (v := (.bool true)) h0 (wanted_none rfl) rfl (fun W hW => x_move rfl e12) ?_
  refine n_take (i := 1) (d := some 122) (v := (.bool false)) h1 (wanted_none rfl) rfl (fun W hW => x_not rfl (pS hsz (by decide))) ?_
  refine n_take (i := 2) (d := some 123) (v := (.bool false)) h2 (wanted_none rfl) rfl (fun W hW => x_move rfl (pS (pZ hsz) (by decide))) ?_
  refine n_take (i := 3) (d := some 124) (v := (.int .i64 j)) h3 (wanted_yes rfl h2 rfl (pS (pZ (pZ hsz)) (by decide))) rfl (fun W hW => x_move rfl (pO (by decide) (pO (by decide) (pO (by decide) e11)))) ?_
  refine n_take (i := 4) (d := some 125) (v := (.bool true)) h4 (wanted_yes rfl h2 rfl (pO (by decide) (pS (pZ (pZ hsz)) (by decide)))) rfl (fun W hW => x_bin rfl (pS (pZ (pZ (pZ hsz))) (by decide)) rfl (gtr_intT W _ _ (by omega))) ?_
  refine n_take (i := 5) (d := some 126) (v := (.bool true)) h5 (wanted_yes rfl h2 rfl (pO (by decide) (pO (by decide) (pS (pZ (pZ hsz)) (by decide))))) rfl (fun W hW => x_move rfl (pS (pZ (pZ (pZ (pZ hsz)))) (by decide))) ?_
  refine n_take (i := 6) (d := some 127) (v := (.slice (some ⟨gD, 0, none⟩) n c)) h6 (wanted_yes rfl h5 rfl (pS (pZ (pZ (pZ (pZ (pZ hsz))))) (by decide))) rfl (fun W hW => x_move rfl (pO (by decide) (pO (by decide) (pO (by decide) (pO (by decide) (pO (by decide) (pO (by decide) e7))))))) ?_
  refine n_take (i := 7) (d := some 128) (v := (.int .i64 i)) h7 (wanted_yes rfl h5 rfl (pO (by decide) (pS (pZ (pZ (pZ (pZ (pZ hsz))))) (by decide)))) rfl (fun W hW => x_move rfl (pO (by decide) (pO (by decide) (pO (by decide) (pO (by decide) (pO (by decide) (pO (by decide) (pO (by decide) e10)))))))) ?_
  refine n_take (i := 8) (d := some 129) (v := (.pointer (some ⟨gD, i * 3, none⟩))) h8 (wanted_yes rfl h5 rfl (pO (by decide) (pO (by decide) (pS (pZ (pZ (pZ (pZ (pZ hsz))))) (by decide))))) rfl (fun W hW => x_index rfl (pO (by decide) (pS (pZ (pZ (pZ (pZ (pZ (pZ hsz)))))) (by decide))) (pS (pZ (pZ (pZ (pZ (pZ (pZ (pZ hsz))))))) (by decide)) (run_idx49 W gD n c i hi)) ?_
  refine n_take (i := 9) (d := some 130) (v := (.pointer (some ⟨gD, i * 3 + 2, none⟩))) h9 (wanted_yes rfl h5 rfl (pO (by decide) (pO (by decide) (pO (by decide) (pS (pZ (pZ (pZ (pZ (pZ hsz))))) (by decide)))))) rfl (fun W hW => x_field rfl (pS (pZ (pZ (pZ (pZ (pZ (pZ (pZ (pZ hsz)))))))) (by decide)) (field55 W gD _)) ?_
  refine n_take (i := 10) (d := some 131) (v := (.slice (some ⟨gP, oP, none⟩) m cb)) h10 (wanted_yes rfl h5 rfl (pO (by decide) (pO (by decide) (pO (by decide) (pO (by decide) (pS (pZ (pZ (pZ (pZ (pZ hsz))))) (by decide))))))) rfl (fun W hW => exec_load rfl (pS (pZ (pZ (pZ (pZ (pZ (pZ (pZ (pZ (pZ hsz))))))))) (by decide)) (load45 (kc hP W hW))) ?_
  refine n_take (i := 11) (d := some 132) (v := (.int .i64 j)) h11 (wanted_yes rfl h5 rfl (pO (by decide) (pO (by decide) (pO (by decide) (pO (by decide) (pO (by decide) (pS (pZ (pZ (pZ (pZ (pZ hsz))))) (by decide)))))))) rfl (fun W hW => x_move rfl (pO (by decide) (pO (by decide) (pO (by decide) (pO (by decide) (pO (by decide) (pO (by decide) (pO (by decide) (pO (by decide) (pO (by decide) (pO (by decide) (pO (by decide) e11)))))))))))) ?_
  refine n_take (i := 12) (d := some 133) (v := (.pointer (some ⟨gP, oP + j * 3, none⟩))) h12 (wanted_yes rfl h5 rfl (pO (by decide) (pO (by decide) (pO (by decide) (pO (by decide) (pO (by decide) (pO (by decide) (pS (pZ (pZ (pZ (pZ (pZ hsz))))) (by decide))))))))) rfl (fun W hW => x_index rfl (pO (by decide) (pS (pZ (pZ (pZ (pZ (pZ (pZ (pZ (pZ (pZ (pZ hsz)))))))))) (by decide))) (pS (pZ (pZ (pZ (pZ (pZ (pZ (pZ (pZ (pZ (pZ (pZ hsz))))))))))) (by decide)) (run_idx45 W gP oP m cb j hj)) ?_
  refine n_take (i := 13) (d := some 134) (v := (.pointer (some ⟨gP, oP + j * 3, none⟩))) h13 (wanted_yes rfl h5 rfl (pO (by decide) (pO (by decide) (pO (by decide) (pO (by decide) (pO (by decide) (pO (by decide) (pO (by decide) (pS (pZ (pZ (pZ (pZ (pZ hsz))))) (by decide)))))))))) rfl (fun W hW => x_field rfl (pS (pZ (pZ (pZ (pZ (pZ (pZ (pZ (pZ (pZ (pZ (pZ (pZ hsz)))))))))))) (by decide)) (field58 W gP _)) ?_
  refine n_take (i := 14) (d := some 135) (v := (.pointer (some ⟨gP, oP + j * 3, none⟩))) h14 (wanted_yes rfl h5 rfl (pO (by decide) (pO (by decide) (pO (by decide) (pO (by decide) (pO (by decide) (pO (by decide) (pO (by decide) (pO (by decide) (pS (pZ (pZ (pZ (pZ (pZ hsz))))) (by decide))))))))))) rfl (fun W hW => x_field rfl (pS (pZ (pZ (pZ (pZ (pZ (pZ (pZ (pZ (pZ (pZ (pZ (pZ (pZ hsz))))))))))))) (by decide)) (field38 W gP _)) ?_
  refine n_take (i := 15) (d := some 136) (v := (.int .i64 f)) h15 (wanted_yes rfl h5 rfl (pO (by decide) (pO (by decide) (pO (by decide) (pO (by decide) (pO (by decide) (pO (by decide) (pO (by decide) (pO (by decide) (pO (by decide) (pS (pZ (pZ (pZ (pZ (pZ hsz))))) (by decide)))))))))))) rfl (fun W hW => exec_load rfl (pS (pZ (pZ (pZ (pZ (pZ (pZ (pZ (pZ (pZ (pZ (pZ (pZ (pZ (pZ hsz)))))))))))))) (by decide)) (load3 (kc hf W hW))) ?_
  refine n_take (i := 16) (d := some 137) (v := (.slice (some ⟨gD, 0, none⟩) n c)) h16 (wanted_yes rfl h5 rfl (pO (by decide) (pO (by decide) (pO (by decide) (pO (by decide) (pO (by decide) (pO (by decide) (pO (by decide) (pO (by decide) (pO (by decide) (pO (by decide) (pS (pZ (pZ (pZ (pZ (pZ hsz))))) (by decide))))))))))))) rfl (fun W hW => x_move rfl (pO (by decide) (pO (by decide) (pO (by decide) (pO (by decide) (pO (by decide) (pO (by decide) (pO (by decide) (pO (by decide) (pO (by decide) (pO (by decide) (pO (by decide) (pO (by decide) (pO (by decide) (pO (by decide) (pO (by decide) (pO (by decide) e7))))))))))))))))) ?_
  refine n_take (i := 17) (d := some 138) (v := (.int .i64 i)) h17 (wanted_yes rfl h5 rfl (pO (by decide) (pO (by decide) (pO (by decide) (pO (by decide) (pO (by decide) (pO (by decide) (pO (by decide) (pO (by decide) (pO (by decide) (pO (by decide) (pO (by decide) (pS (pZ (pZ (pZ (pZ (pZ hsz))))) (by decide)))))))))))))) rfl (fun W hW => x_move rfl (pO (by decide) (pO (by decide) (pO (by decide) (pO (by decide) (pO (by decide) (pO (by decide) (pO (by decide) (pO (by decide) (pO (by decide) (pO (by decide) (pO (by decide) (pO (by decide) (pO (by decide) (pO (by decide) (pO (by decide) (pO (by decide) (pO (by decide) e10)))))))))))))))))) ?_
  refine n_take (i := 18) (d := some 139) (v := (.pointer (some ⟨gD, i * 3, none⟩))) h18 (wanted_yes rfl h5 rfl (pO (by decide) (pO (by decide) (pO (by decide) (pO (by decide) (pO (by decide) (pO (by decide) (pO (by decide) (pO (by decide) (pO (by decide) (pO (by decide) (pO (by decide) (pO (by decide) (pS (pZ (pZ (pZ (pZ (pZ hsz))))) (by decide))))))))))))))) rfl (fun W hW => x_index rfl (pO (by decide) (pS (pZ (pZ (pZ (pZ (pZ (pZ (pZ (pZ (pZ (pZ (pZ (pZ (pZ (pZ (pZ (pZ hsz)))))))))))))))) (by decide))) (pS (pZ (pZ (pZ (pZ (pZ (pZ (pZ (pZ (pZ (pZ (pZ (pZ (pZ (pZ (pZ (pZ (pZ hsz))))))))))))))))) (by decide)) (run_idx49 W gD n c i hi)) ?_
  refine n_take (i := 19) (d := some 140) (v := (.pointer (some ⟨gD, i * 3 + 2, none⟩))) h19 (wanted_yes rfl h5 rfl (pO (by decide) (pO (by decide) (pO (by decide) (pO (by decide) (pO (by decide) (pO (by decide) (pO (by decide) (pO (by decide) (pO (by decide) (pO (by decide) (pO (by decide) (pO (by decide) (pO (by decide) (pS (pZ (pZ (pZ (pZ (pZ hsz))))) (by decide)))))))))))))))) rfl (fun W hW => x_field rfl (pS (pZ (pZ (pZ (pZ (pZ (pZ (pZ (pZ (pZ (pZ (pZ (pZ (pZ (pZ (pZ (pZ (pZ (pZ hsz)))))))))))))))))) (by decide)) (field55 W gD _)) ?_
  refine n_take (i := 20) (d := some 141) (v := (.slice (some ⟨gP, oP, none⟩) m cb)) h20 (wanted_yes rfl h5 rfl (pO (by decide) (pO (by decide) (pO (by decide) (pO (by decide) (pO (by decide) (pO (by decide) (pO (by decide) (pO (by decide) (pO (by decide) (pO (by decide) (pO (by decide) (pO (by decide) (pO (by decide) (pO (by decide) (pS (pZ (pZ (pZ (pZ (pZ hsz))))) (by decide))))))))))))))))) rfl (fun W hW => exec_load rfl (pS (pZ (pZ (pZ (pZ (pZ (pZ (pZ (pZ (pZ (pZ (pZ (pZ (pZ (pZ (pZ (pZ (pZ (pZ (pZ hsz))))))))))))))))))) (by decide)) (load45 (kc hP W hW))) ?_
  refine n_take (i := 21) (d := some 142) (v := (.int .i64 j)) h21 (wanted_yes rfl h5 rfl (pO (by decide) (pO (by decide) (pO (by decide) (pO (by decide) (pO (by decide) (pO (by decide) (pO (by decide) (pO (by decide) (pO (by decide) (pO (by decide) (pO (by decide) (pO (by decide) (pO (by decide) (pO (by decide) (pO (by decide) (pS (pZ (pZ (pZ (pZ (pZ hsz))))) (by decide)))))))))))))))))) rfl (fun W hW => x_move rfl (pO (by decide) (pO (by decide) (pO (by decide) (pO (by decide) (pO (by decide) (pO (by decide) (pO (by decide) (pO (by decide) (pO (by decide) (pO (by decide) (pO (by decide) (pO (by decide) (pO (by decide) (pO (by decide) (pO (by decide) (pO (by decide) (pO (by decide) (pO (by decide) (pO (by decide) (pO (by decide) (pO (by decide) e11)))))))))))))))))))))) ?_
  refine n_take (i := 22) (d := some 143) (v := (.int .i64 j1)) h22 (wanted_yes rfl h5 rfl (pO (by decide) (pO (by decide) (pO (by decide) (pO (by decide) (pO (by decide) (pO (by decide) (pO (by decide) (pO (by decide) (pO (by decide) (pO (by decide) (pO (by decide) (pO (by decide) (pO (by decide) (pO (by decide) (pO (by decide) (pO (by decide) (pS (pZ (pZ (pZ (pZ (pZ hsz))))) (by decide))))))))))))))))))) rfl (fun W hW => x_bin rfl (pS (pZ (pZ (pZ (pZ (pZ (pZ (pZ (pZ (pZ (pZ (pZ (pZ (pZ (pZ (pZ (pZ (pZ (pZ (pZ (pZ (pZ hsz))))))))))))))))))))) (by decide)) rfl (sub_one W j j1 hj1 (by omega))) ?_
  refine n_take (i := 23) (d := some 144) (v := (.pointer (some ⟨gP, oP + j1 * 3, none⟩))) h23 (wanted_yes rfl h5 rfl (pO (by decide) (pO (by decide) (pO (by decide) (pO (by decide) (pO (by decide) (pO (by decide) (pO (by decide) (pO (by decide) (pO (by decide) (pO (by decide) (pO (by decide) (pO (by decide) (pO (by decide) (pO (by decide) (pO (by decide) (pO (by decide) (pO (by decide) (pS (pZ (pZ (pZ (pZ (pZ hsz))))) (by decide)))))))))))))))))))) rfl (fun W hW => x_index rfl (pO (by decide) (pO (by decide) (pS (pZ (pZ (pZ (pZ (pZ (pZ (pZ (pZ (pZ (pZ (pZ (pZ (pZ (pZ (pZ (pZ (pZ (pZ (pZ (pZ hsz)))))))))))))))))))) (by decide)))) (pS (pZ (pZ (pZ (pZ (pZ (pZ (pZ (pZ (pZ (pZ (pZ (pZ (pZ (pZ (pZ (pZ (pZ (pZ (pZ (pZ (pZ (pZ hsz)))))))))))))))))))))) (by decide)) (run_idx45 W gP oP m cb j1 (by omega))) ?_
  refine n_take (i := 24) (d := some 145) (v := (.pointer (some ⟨gP, oP + j1 * 3, none⟩))) h24 (wanted_yes rfl h5 rfl (pO (by decide) (pO (by decide) (pO (by decide) (pO (by decide) (pO (by decide) (pO (by decide) (pO (by decide) (pO (by decide) (pO (by decide) (pO (by decide) (pO (by decide) (pO (by decide) (pO (by decide) (pO (by decide) (pO (by decide) (pO (by decide) (pO (by decide) (pO (by decide) (pS (pZ (pZ (pZ (pZ (pZ hsz))))) (by decide))))))))))))))))))))) rfl (fun W hW => x_field rfl (pS (pZ (pZ (pZ (pZ (pZ (pZ (pZ (pZ (pZ (pZ (pZ (pZ (pZ (pZ (pZ (pZ (pZ (pZ (pZ (pZ (pZ (pZ (pZ hsz))))))))))))))))))))))) (by decide)) (field58 W gP _)) ?_
  refine n_take (i := 25) (d := some 146) (v := (.pointer (some ⟨gP, oP + j1 * 3 + 1, none⟩))) h25 (wanted_yes rfl h5 rfl (pO (by decide) (pO (by decide) (pO (by decide) (pO (by decide) (pO (by decide) (pO (by decide) (pO (by decide) (pO (by decide) (pO (by decide) (pO (by decide) (pO (by decide) (pO (by decide) (pO (by decide) (pO (by decide) (pO (by decide) (pO (by decide) (pO (by decide) (pO (by decide) (pO (by decide) (pS (pZ (pZ (pZ (pZ (pZ hsz))))) (by decide)))))))))))))))))))))) rfl (fun W hW => x_field rfl (pS (pZ (pZ (pZ (pZ (pZ (pZ (pZ (pZ (pZ (pZ (pZ (pZ (pZ (pZ (pZ (pZ (pZ (pZ (pZ (pZ (pZ (pZ (pZ (pZ hsz)))))))))))))))))))))))) (by decide)) (field38b W gP _)) ?_
  refine n_take (i := 26) (d := some 147) (v := (.int .i64 t)) h26 (wanted_yes rfl h5 rfl (pO (by decide) (pO (by decide) (pO (by decide) (pO (by decide) (pO (by decide) (pO (by decide) (pO (by decide) (pO (by decide) (pO (by decide) (pO (by decide) (pO (by decide) (pO (by decide) (pO (by decide) (pO (by decide) (pO (by decide) (pO (by decide) (pO (by decide) (pO (by decide) (pO (by decide) (pO (by decide) (pS (pZ (pZ (pZ (pZ (pZ hsz))))) (by decide))))))))))))))))))))))) rfl (fun W hW => exec_load rfl (pS (pZ (pZ (pZ (pZ (pZ (pZ (pZ (pZ (pZ (pZ (pZ (pZ (pZ (pZ (pZ (pZ (pZ (pZ (pZ (pZ (pZ (pZ (pZ (pZ (pZ hsz))))))))))))))))))))))))) (by decide)) (load3 (kc ht W hW))) ?_
  refine n_take (i := 27) (d := some 148) (v := (.bool false)) h27 (wanted_yes rfl h5 rfl (pO (by decide) (pO (by decide) (pO (by decide) (pO (by decide) (pO (by decide) (pO (by decide) (pO (by decide) (pO (by decide) (pO (by decide) (pO (by decide) (pO (by decide) (pO (by decide) (pO (by decide) (pO (by decide) (pO (by decide) (pO (by decide) (pO (by decide) (pO (by decide) (pO (by decide) (pO (by decide) (pO (by decide) (pS (pZ (pZ (pZ (pZ (pZ hsz))))) (by decide)))))))))))))))))))))))) rfl (fun W hW => x_bin rfl (pO (by decide) (pO (by decide) (pO (by decide) (pO (by decide) (pO (by decide) (pO (by decide) (pO (by decide) (pO (by decide) (pO (by decide) (pO (by decide) (pO (by decide) (pS (pZ (pZ (pZ (pZ (pZ (pZ (pZ (pZ (pZ (pZ (pZ (pZ (pZ (pZ (pZ hsz))))))))))))))) (by decide))))))))))))) (pS (pZ (pZ (pZ (pZ (pZ (pZ (pZ (pZ (pZ (pZ (pZ (pZ (pZ (pZ (pZ (pZ (pZ (pZ (pZ (pZ (pZ (pZ (pZ (pZ (pZ (pZ hsz)))))))))))))))))))))))))) (by decide)) (lss_intF W _ _ (by omega))) ?_
  refine n_take (i := 28) (d := some 149) (v := (.bool false)) h28 (wanted_yes rfl h2 rfl (pO (by decide) (pO (by decide) (pO (by decide) (pO (by decide) (pO (by decide) (pO (by decide) (pO (by decide) (pO (by decide) (pO (by decide) (pO (by decide) (pO (by decide) (pO (by decide) (pO (by decide) (pO (by decide) (pO (by decide) (pO (by decide) (pO (by decide) (pO (by decide) (pO (by decide) (pO (by decide) (pO (by decide) (pO (by decide) (pO (by decide) (pO (by decide) (pO (by decide) (pS (pZ (pZ hsz)) (by decide)))))))))))))))))))))))))))) rfl (fun W hW => x_pickT rfl (pO (by decide) (pO (by decide) (pO (by decide) (pO (by decide) (pO (by decide) (pO (by decide) (pO (by decide) (pO (by decide) (pO (by decide) (pO (by decide) (pO (by decide) (pO (by decide) (pO (by decide) (pO (by decide) (pO (by decide) (pO (by decide) (pO (by decide) (pO (by decide) (pO (by decide) (pO (by decide) (pO (by decide) (pO (by decide) (pS (pZ (pZ (pZ (pZ (pZ hsz))))) (by decide)))))))))))))))))))))))) (pS (pZ (pZ (pZ (pZ (pZ (pZ (pZ (pZ (pZ (pZ (pZ (pZ (pZ (pZ (pZ (pZ (pZ (pZ (pZ (pZ (pZ (pZ (pZ (pZ (pZ (pZ (pZ hsz))))))))))))))))))))))))))) (by decide))) ?_
  refine n_take (i := 29) (d := some 150) (v := (.bool false)) h29 (wanted_none rfl) rfl (fun W hW => x_pickF rfl (pO (by decide) (pO (by decide) (pO (by decide) (pO (by decide) (pO (by decide) (pO (by decide) (pO (by decide) (pO (by decide) (pO (by decide) (pO (by decide) (pO (by decide) (pO (by decide) (pO (by decide) (pO (by decide) (pO (by decide) (pO (by decide) (pO (by decide) (pO (by decide) (pO (by decide) (pO (by decide) (pO (by decide) (pO (by decide) (pO (by decide) (pO (by decide) (pO (by decide) (pO (by decide) (pS (pZ (pZ hsz)) (by decide)))))))))))))))))))))))))))) (pS (pZ (pZ (pZ (pZ (pZ (pZ (pZ (pZ (pZ (pZ (pZ (pZ (pZ (pZ (pZ (pZ (pZ (pZ (pZ (pZ (pZ (pZ (pZ (pZ (pZ (pZ (pZ (pZ hsz)))))))))))))))))))))))))))) (by decide))) ?_
  refine n_done ?_
  exact K _ _ _ _ _ _ _ _ _ _ _ _ _ _ _ _ _ _ _ _ _ _ _ _ _ _ _ _ _ _ (Lib.hid hB0)
end Go.Proofs.Ytagkdkkpgcolkaa
namespace Go.Proofs.Ytagkdkkpgcolkaa
open Go.RowKit
set_option linter.unusedVariables false
set_option linter.unusedSimpArgs false
theorem cnt_mono (ds : List Du) : ∀ n k, k ≤ n → cnt ds k ≤ cnt ds n
  | 0, k, h => by
    obtain rfl : k = 0 := by omega
    exact Nat.le_refl _
  | n + 1, k, h => by
    by_cases e : k = n + 1
    · rw [e]; exact Nat.le_refl _
    · have := cnt_mono ds n k (by omega)
      rw [cnt]; omega
theorem ownPs_only {W W' : World} {g base N : Nat} {M : Int} {v : Value} {ps : List Pr} {ms : List M3} (h : OwnPs W base N v ps ms) (ho : Only g W W') (hd : Deck W g M) : OwnPs W' base N v ps ms := by
  obtain ⟨dcs, hd⟩ := hd.blk
  refine h.chg (chg_only ho) (Nat.le_refl _) (fun x hx hg => ?_) (fun x hx cs hc => ?_)
  · obtain ⟨cs, hc⟩ := own_blk h.row hx
    subst hg
    exact Blk.ne_ hc hd (by decide) rfl
  · subst hx
    exact Blk.ne_ hc hd (by decide) rfl
theorem row_only {W W' : World} {g base n : Nat} {M : Int} {v : Value} {xs : List Value} (h : W.ownsRow base 42 3 v n xs) (ho : Only g W W') (hd : Deck W g M) : W'.ownsRow base 42 3 v n xs := by
  obtain ⟨dcs, hd⟩ := hd.blk
  refine World.ownsRow.kept h ho (.inr (fun e => ?_))
  obtain ⟨cs, hc⟩ := own_blk h e
  exact Blk.ne_ hc hd (by decide) rfl
set_option maxRecDepth 100000 in
set_option maxHeartbeats 12800000 in
theorem shiftDivides_walk (A0 : Option Addr) (c0 : Nat) (l0 : List Int) (w : World) (hr0 : RdI w w.heap.size A0 l0) (hl0 : l0.length ≤ 9223372036854775807) :
    Calls Try.prog 5 #[.slice A0 l0.length c0] w (RetB true w) := by
  have HNEW := Lib.hid (new_any A0 c0 l0 w hr0 hl0)
  clear hr0
  go_enter Try.func5, Try.ntmps5
  go_wp2_with fail
  refine HNEW.out.mono ?_
  rintro e w1 ⟨rfl, hb1, hd1, _⟩
  obtain ⟨g, Hg⟩ : ∃ g, Hid (g = w.heap.size) := ⟨_, Lib.hid rfl⟩
  rw [← Hg.out]
  have HL1 : Hid (LW w g 0 w1) := Lib.hid (by rw [Hg.out]; exact ⟨hb1, hd1, Nat.le_refl _⟩)
  clear hb1 hd1 HNEW Hg
  go_wp2_with fail
  refine (zone_any g 0 _ HL1.out.deck (by omega)).mono ?_
  rintro e w2 ⟨o, A, c, l, a, rfl, hgen, hr, hne, ho2, hD2⟩
  have HV : Hid (zerr o l = 0) := Lib.hid (zerr_of (zgen_val hgen))
  have HZL : Hid (l.length ≤ 9223372036854775807) := Lib.hid (by have := hgen.1; omega)
  have HL2 : Hid (LW w g (0 + 20) w2) := Lib.hid (HL1.out.only ho2 hD2)
  have HR2 := Lib.hid hr
  have HNe : Hid (∀ b off, A = some ⟨b, off, none⟩ → b ≠ g) := Lib.hid (fun b off e => by have h1 := hne b off e; have h2 := HL1.out.deck.lt; omega)
  clear hgen hr hne ho2 hD2 HL1
  go_wp2_with fail
  refine (plan_any g (0 + 20) 6 6 _ HL2.out.deck (by omega) rfl (by omega)).mono ?_
  rintro e w3 ⟨A1, c1, pl, rfl, hpk, hpr⟩
  have HPK : Hid (PlanOk pl) := Lib.hid hpk
  have hpl : pl.length ≤ 12 := hpk.1
  have HL3 : Hid (LW w g (0 + 20 + 24) w3) := Lib.hid (HL2.out.pr hpr)
  have HR3 : Hid (RdP w3 w3.heap.size A l) := Lib.hid (Rd.more (Rd.only' HR2.out hpr.only (Nat.le_refl _) HNe.out) hpr.only.size)
  have HT3 : Hid (w3.ownsRow w2.heap.size 42 3 (.slice A1 pl.length c1) pl.length (flat3 pl)) := Lib.hid hpr.own
  clear hpk hpr HL2 HR2
  go_wp2_with fail
  refine (presences_any g (0 + 20 + 24) 6 6 _ HL3.out.deck (by omega) rfl (by omega)).mono ?_
  rintro e w4 ⟨A4, c4, ps, ms, a4, rfl, hp7, hpg, hps, ho, hD⟩
  have HL4 : Hid (LW w g (0 + 20 + 24 + 80) w4) := Lib.hid (HL3.out.only ho hD)
  have HR4 : Hid (RdP w4 w4.heap.size A l) := Lib.hid (Rd.more (Rd.only' HR3.out ho (Nat.le_refl _) HNe.out) ho.size)
  have HT4 : Hid (w4.ownsRow w2.heap.size 42 3 (.slice A1 pl.length c1) pl.length (flat3 pl)) := Lib.hid (row_only HT3.out ho HL3.out.deck)
  have HS4 : Hid (OwnPs w4 w3.heap.size w4.heap.size (.slice A4 ps.length c4) ps ms) := Lib.hid hps
  have HPV : Hid (prV ps = 0) := Lib.hid (made_pr hpg hp7)
  have HPO : Hid (prOk ps ps.length) := Lib.hid hpg.1
  clear hpg hps ho hD HL3 HR3 HT3
  go_upto_region 3 with (fail)
  obtain ⟨w5, Hw5⟩ : ∃ W, Hid (W = w4.alloc (.cells #[.int .i64 o, .slice A l.length c] 25)) := ⟨_, Lib.hid rfl⟩
  obtain ⟨gz, Hgz⟩ : ∃ x, Hid (x = w4.heap.size) := ⟨_, Lib.hid rfl⟩
  rw [← Hw5.out, ← Hgz.out]
  have HA5 : Hid (Below w4.heap.size w4 w5) := Lib.hid (by rw [Hw5.out]; exact (Below.refl _ _).alloc (Nat.le_refl _) _)
  have HZ5 : Hid (Blk w5 gz 25 #[.int .i64 o, .slice A l.length c]) := Lib.hid (by rw [Hw5.out, Hgz.out]; exact Blk.new _ _ _)
  have HL5 : Hid (LW w g (0 + 20 + 24 + 80) w5) := Lib.hid (HL4.out.bel HA5.out)
  have HR5 : Hid (RdP w5 w5.heap.size A l) := Lib.hid (rdP_up HR4 HA5.out)
  have HT5 : Hid (w5.ownsRow w2.heap.size 42 3 (.slice A1 pl.length c1) pl.length (flat3 pl)) := Lib.hid (by rw [Hw5.out]; exact HT4.out.alloc _)
  have HS5 : Hid (OwnPs w5 w3.heap.size w4.heap.size (.slice A4 ps.length c4) ps ms) := Lib.hid (HS4.out.chg (S := fun _ => False) (Chg.of_below' HA5.out |>.mono (fun _ _ h => h)) (Nat.le_refl _) (fun _ _ h => h) (fun _ h => h.elim))
  clear Hw5 Hgz HA5 HL4 HR4 HT4 HS4
  refine div3 (zl := l) (l := pl) (P := ps) (M := 0 + 20 + 24 + 80) 3 (by kernel_rfl) rfl rfl rfl rfl rfl rfl rfl rfl rfl rfl rfl rfl rfl rfl rfl (show 160 ≤ 160 from by decide) (fun _ _ _ _ _ h => h) rfl rfl rfl rfl ⟨HZ5.out, HL5.out.deck, Only.refl _ _⟩ (by omega) (fun u v W _ _ ho => (assign_any o A c l.length l A1 c1 pl.length pl A4 c4 ps.length ps u v W (Lib.hid rfl) (Lib.hid rfl) (Lib.hid rfl) (Rd.more (Rd.only' HR5.out ho (Nat.le_refl _) HNe.out) ho.size) HZL.out (own_rd3 (row_only HT5.out ho HL5.out.deck)) (by omega) (ownPs_rd (ownPs_only HS5.out ho HL5.out.deck)) (by omega)).mono (fun e w' h => asAny_of h)) ?_
  intro z0 z1 z2 z3 z4 z5 z6 z7 z8 z9 z10 z11 z12 u v A9 n9 c9 w6 Hu Hv HO6 HD6 H0 H1
  simp only [Act.put, List.setIfInBounds_toArray, List.set_cons_zero, List.set_cons_succ]
  have huv : 0 ≤ u ∧ u ≤ 1440 ∧ 0 ≤ v ∧ v ≤ 1440 := by have h1 := Hu.out; have h2 := Hv.out; simp at h1 h2; omega
  obtain ⟨ev, Hev⟩ : ∃ x, Hid (x = asE o l pl ps u v) := ⟨_, Lib.hid rfl⟩
  rw [← Hev.out] at H0 H1 ⊢
  have HvE : Hid (ev = vE o l pl) := Lib.hid (by rw [Hev.out]; exact asE_made HPV.out huv)
  have HL6 : Hid (LW w g (0 + 20 + 24 + 80 + 1 + 1) w6) := Lib.hid (HL5.out.only HO6.out HD6.out)
  have HZ6 : Hid (Blk w6 gz 25 #[.int .i64 o, .slice A l.length c]) := Lib.hid (by
    obtain ⟨dcs, hd⟩ := HL5.out.deck.blk
    exact HZ5.out.grown HO6.out (fun e => by
      injection e with e
      exact Blk.ne_ HZ5.out hd (by decide) e))
  have HR6 : Hid (RdP w6 w6.heap.size A l) := Lib.hid (Rd.more (Rd.only' HR5.out HO6.out (Nat.le_refl _) HNe.out) HO6.out.size)
  have HT6 : Hid (RdT w6 w6.heap.size A1 pl) := Lib.hid (own_rd3 (row_only HT5.out HO6.out HL5.out.deck))
  have HP6 : Hid (RdPr w6 A4 ps) := Lib.hid (ownPs_rd (ownPs_only HS5.out HO6.out HL5.out.deck))
  have HBw6 : Hid (Below w.heap.size w w6) := Lib.hid HL6.out.below
  clear HL5 HZ5 HR5 HT5 HS5 HO6 HD6 HNe HPV
  by_cases he : ev = 0
  rotate_left
  · have he1 : ev = 1 := by
      have h := plan_vE HV.out HPK.out
      rw [← HvE.out] at h
      omega
    subst he1
    have z0 : w6.cell? ⟨gz, 0, none⟩ = some (.int .i64 o) := by have := HZ6.out.cell 0; simpa using this
    have z1 : w6.cell? ⟨gz, 1, none⟩ = some (.slice A l.length c) := by have := HZ6.out.cell 1; simpa using this
    go_wp2_with fail
    refine (valid_at (Lib.hid rfl) (Lib.hid rfl) HvE HR6.out HZL HT6.out (by omega)).mono ?_
    rintro e w7 ⟨rfl, hb⟩
    have HW := Lib.hid (HBw6.out.trans (hb.mono HBw6.out.size))
    clear hb z0 z1
    go_wp2_with fail
    refine (sane_any _).mono ?_
    rintro e x2 ⟨rfl, hb⟩
    have HW2 := Lib.hid (HW.out.trans (hb.mono HW.out.size))
    clear hb
    go_wp2
    go_ret
    exact ⟨rfl, HW2.out⟩
  subst he
  obtain ⟨ds, Hds⟩ : ∃ x, Hid (x = asL o l pl ps u v) := ⟨_, Lib.hid rfl⟩
  have h0 := H0.out rfl
  rw [← Hds.out] at h0
  have Hn9 : Hid (n9 = ds.length) := Lib.hid h0.1
  have HDu : Hid (RdDu w6 A9 ds) := Lib.hid h0.2
  obtain ⟨S, HS⟩ : ∃ x, Hid (x = spL o l pl pl.length) := ⟨_, Lib.hid rfl⟩
  have Hds2 : Hid (ds = asTo o l pl S u v ps ps.length) := Lib.hid (by rw [Hds.out, HS.out]; rfl)
  have HDv : Hid (DivI ps ps.length ds) := Lib.hid (by rw [Hds2.out]; exact as_div HPO.out _ (Nat.le_refl _))
  have HUL : Hid (∀ i, (uP ds i).length ≤ 7) := Lib.hid (by rw [Hds2.out]; exact fun i => Nat.le_trans (uP_len _ i) hp7)
  have hn9 : n9 ≤ 7 := by rw [Hn9.out, Hds2.out]; exact Nat.le_trans (as_len _) hp7
  have HCm : Hid (∀ k, k ≤ ds.length → cnt ds k ≤ 7) := Lib.hid (fun k hk => by have h1 := cnt_mono ds _ k hk; have h2 := HDv.out.cnt; omega)
  clear h0 H0 H1 Hds Hds2 Hev HvE HZ6 HR6 HT6 HL6 HV HPK HPO
  go_wp2
  go_loopw [9, 10] (fun nv i wr => ∃ k : Nat, k ≤ n9 ∧ i = .int .i64 k ∧ nv = .int .i64 (cnt ds k) ∧ Below w6.heap.size w6 wr) (fun _ i _ => n9 - (intOf i).toNat)
  case atStart => exact ⟨0, Nat.zero_le _, rfl, rfl, Below.refl _ _⟩
  case round =>
    obtain ⟨k, hk, rfl, rfl, hbk⟩ := hrel
    have HBk := Lib.hid hbk
    clear hbk
    by_cases hkn : k < n9
    · have hkd : k < ds.length := by rw [← Hn9.out]; exact hkn
      obtain ⟨gD, hA9⟩ := du_addr HDu hkd
      subst hA9
      obtain ⟨mi, Hmi⟩ : ∃ x, Hid (x = (uP ds k).length) := ⟨_, Lib.hid rfl⟩
      have hmi : mi ≤ 7 := by rw [Hmi.out]; exact HUL.out k
      have hm0 : 0 < mi := by rw [Hmi.out]; exact HDv.out.ne k hkd
      obtain ⟨ck, Hck⟩ : ∃ x, Hid (x = cnt ds k) := ⟨_, Lib.hid rfl⟩
      have hck : ck ≤ 7 := by rw [Hck.out]; exact HCm.out k (by omega)
      have Hck1 : Hid (cnt ds (k + 1) = ck + mi) := Lib.hid (by rw [cnt, Hck.out, Hmi.out])
      rw [← Hck.out]
      obtain ⟨B, cb, _, _, d2, hpr⟩ := du_cells HDu HBk.out hkd
      rw [← Hmi.out] at d2
      obtain ⟨gP, oP, B2, m2, c2, rfl, hpa⟩ := pr_cells (Lib.hid hpr) (Below.refl _ _) (show 0 < (uP ds k).length by rw [← Hmi.out]; exact hm0)
      have HD2 := Lib.hid d2
      have HF := Lib.hid hpa.c0
      clear d2 hpr hpa
      go_upto_region 10 with (fail)
      by_cases hk0 : k = 0
      · subst hk0
        refine div10a 10 (by kernel_rfl) rfl rfl rfl rfl rfl rfl rfl rfl rfl rfl rfl rfl rfl rfl rfl rfl rfl rfl rfl rfl rfl rfl rfl rfl rfl rfl rfl rfl rfl rfl rfl rfl rfl (show 160 ≤ 160 from by decide) (fun _ _ _ _ _ h => h) rfl rfl hkn hm0 HD2.out ?_
        intro z0 z1 z2 z3 z4 z5 z6 z7 z8 z9 z10 z11 z12 z13 z14 z15 z16 z17 z18 z19 z20 z21 z22 z23 z24 z25 z26 z27 z28 z29 z30 z31 w7 HB7
        simp only [Act.put, List.setIfInBounds_toArray, List.set_cons_zero, List.set_cons_succ]
        have HBk7 : Hid (Below w6.heap.size w6 w7) := Lib.hid (HBk.out.trans (HB7.out.mono HBk.out.size))
        clear HD2 HF HB7 HBk
        go_wp2
        go_loopw [9, 11] (fun nv j wq => ∃ q : Nat, q ≤ mi ∧ j = .int .i64 q ∧ nv = .int .i64 ((ck + q : Nat) : Int) ∧ Below w6.heap.size w6 wq) (fun _ j _ => mi - (intOf j).toNat)
        case atStart => exact ⟨0, Nat.zero_le _, rfl, rfl, HBk7.out⟩
        case round =>
          obtain ⟨q, hq, rfl, rfl, hbq⟩ := hrel
          have HBq := Lib.hid hbq
          clear hbq
          obtain ⟨B, cb, _, _, d2, hpr⟩ := du_cells HDu HBq.out hkd
          rw [← Hmi.out] at d2
          by_cases hqm : q < mi
          · have hqu : q < (uP ds 0).length := by rw [← Hmi.out]; exact hqm
            obtain ⟨f, Hf⟩ : ∃ x, Hid (x = pF (uP ds 0) q) := ⟨_, Lib.hid rfl⟩
            obtain ⟨t, Ht⟩ : ∃ x, Hid (x = pT (uP ds 0) q) := ⟨_, Lib.hid rfl⟩
            have HFn : Hid (∃ y, y < ps.length ∧ pF ps y = f ∧ pT ps y = t) := Lib.hid (by
              obtain ⟨y, h1, h2, h3⟩ := HDv.out.fnd 0 q hkd hqu
              exact ⟨y, h1, by rw [Hf.out, h2], by rw [Ht.out, h3]⟩)
            clear hpr
            go_wp2
            clear d2
            go_loopw [12, 13] (fun fv xv wx => ∃ (x : Nat) (fb : Bool), x ≤ ps.length ∧ xv = .int .i64 x ∧ fv = .bool fb ∧ (∀ y, y < x → pF ps y = f → pT ps y = t → fb = true) ∧ Below w6.heap.size w6 wx) (fun _ xv _ => ps.length - (intOf xv).toNat)
            case atStart => exact ⟨0, false, Nat.zero_le _, rfl, rfl, fun y hy => by omega, HBq.out⟩
            case round =>
              obtain ⟨x, fb, hx, rfl, rfl, hfb, hbx⟩ := hrel
              have HBx := Lib.hid hbx
              have HFB := Lib.hid hfb
              clear hbx hfb
              by_cases hxl : x < ps.length
              · go_upto_region 19 with (fail)
                cases fb with
                | true =>
                  refine div19a 19 (by kernel_rfl) rfl rfl rfl rfl rfl rfl rfl rfl rfl rfl rfl rfl rfl rfl rfl rfl rfl rfl rfl (show 160 ≤ 160 from by decide) (fun _ _ _ _ _ h => h) rfl ?_
                  intro z0 z1 z2 z3 z4 z5 z6 z7 z8 z9 z10 z11 z12 z13 z14 z15 z16 z17 w8 HB8
                  simp only [Act.put, List.setIfInBounds_toArray, List.set_cons_zero, List.set_cons_succ]
                  have HBx8 : Hid (Below w6.heap.size w6 w8) := Lib.hid (HBx.out.trans (HB8.out.mono HBx.out.size))
                  clear HB8 HBx HFB
                  go_wp2
                  go_roundw
                  case rel => exact ⟨x + 1, true, by omega, by go_num, rfl, fun _ _ _ _ => rfl, HBx8.out⟩
                  case measure => simp [intOf]; omega
                | false =>
                  obtain ⟨B, cb, _, _, e2, hpr⟩ := du_cells HDu HBx.out hkd
                  rw [← Hmi.out] at e2
                  obtain ⟨gP, oP, B2, m2, c2, rfl, hpa⟩ := pr_cells (Lib.hid hpr) (Below.refl _ _) hqu
                  obtain ⟨gL, oL, B3, m3, c3, hA, hpl⟩ := pr_cells HP6 HBx.out hxl
                  subst hA
                  have HE2 := Lib.hid e2
                  have HQ0 := Lib.hid hpa.c0
                  have HQ1 := Lib.hid hpa.c1
                  have HX0 := Lib.hid hpl.c0
                  have HX1 := Lib.hid hpl.c1
                  rw [← Hf.out] at HQ0
                  rw [← Ht.out] at HQ1
                  clear e2 hpr hpa hpl
                  refine div19b (f := f) (t := t) (lf := pF ps x) (lt := pT ps x) 19 (by kernel_rfl) rfl rfl rfl rfl rfl rfl rfl rfl rfl rfl rfl rfl rfl rfl rfl rfl rfl rfl rfl (show 160 ≤ 160 from by decide) (fun _ _ _ _ _ h => h) rfl rfl rfl rfl rfl rfl hxl hkn hqm HX0.out HX1.out HE2.out HQ0.out HQ1.out ?_
                  intro z0 z1 z2 z3 z4 z5 z6 z7 z8 z9 z10 z11 z12 z13 z14 z15 z16 z17 w8 HB8
                  simp only [Act.put, List.setIfInBounds_toArray, List.set_cons_zero, List.set_cons_succ]
                  have HBx8 : Hid (Below w6.heap.size w6 w8) := Lib.hid (HBx.out.trans (HB8.out.mono HBx.out.size))
                  obtain ⟨fb2, Hfb2⟩ : ∃ z, Hid (z = (pF ps x == f && pT ps x == t)) := ⟨_, Lib.hid rfl⟩
                  rw [← Hfb2.out]
                  have HFB2 : Hid (∀ y, y < x + 1 → pF ps y = f → pT ps y = t → fb2 = true) := Lib.hid (fun y hy h1 h2 => by
                    rcases Nat.lt_or_ge y x with hyx | hyx
                    · exact absurd (HFB.out y hyx h1 h2) (by decide)
                    · obtain rfl : y = x := by omega
                      rw [Hfb2.out]
                      simp [h1, h2])
                  clear HB8 HBx HFB HE2 HQ0 HQ1 HX0 HX1 Hfb2
                  go_wp2
                  go_roundw
                  case rel => exact ⟨x + 1, fb2, by omega, by go_num, rfl, HFB2.out, HBx8.out⟩
                  case measure => simp [intOf]; omega
              · have hfb : fb = true := by
                  obtain ⟨y, h1, h2, h3⟩ := HFn.out
                  exact HFB.out y (by omega) h2 h3
                subst hfb
                go_upto_region 20 with (fail)
                by_cases hq0 : q = 0
                · subst hq0
                  refine div20a 20 (by kernel_rfl) rfl rfl rfl rfl rfl rfl rfl rfl rfl rfl rfl rfl rfl rfl rfl rfl rfl rfl rfl rfl rfl rfl rfl rfl rfl rfl rfl rfl rfl rfl (show 160 ≤ 160 from by decide) (fun _ _ _ _ _ h => h) rfl rfl ?_
                  intro z0 z1 z2 z3 z4 z5 z6 z7 z8 z9 z10 z11 z12 z13 z14 z15 z16 z17 z18 z19 z20 z21 z22 z23 z24 z25 z26 z27 z28 w8 HB8
                  simp only [Act.put, List.setIfInBounds_toArray, List.set_cons_zero, List.set_cons_succ]
                  have HBx8 : Hid (Below w6.heap.size w6 w8) := Lib.hid (HBx.out.trans (HB8.out.mono HBx.out.size))
                  clear HB8 HBx HFB
                  go_wp2
                  go_roundw
                  case rel => exact ⟨0 + 1, by omega, by go_num, by go_num, HBx8.out⟩
                  case measure => simp [intOf]; omega
                · obtain ⟨q1, hq1⟩ : ∃ q1, q = q1 + 1 := ⟨q - 1, by omega⟩
                  obtain ⟨B, cb, _, _, e2, hpr⟩ := du_cells HDu HBx.out hkd
                  rw [← Hmi.out] at e2
                  obtain ⟨gP, oP, B2, m2, c2, rfl, hpa⟩ := pr_cells (Lib.hid hpr) (Below.refl _ _) hqu
                  obtain ⟨gP', oP', B3, m3, c3, hA, hpb⟩ := pr_cells (Lib.hid hpr) (Below.refl _ _) (show q1 < (uP ds 0).length by omega)
                  injection hA with hA
                  injection hA with hA1 hA2
                  subst hA1 hA2
                  have hle := HDv.out.ord 0 q1 hkd (by omega)
                  rw [← hq1] at hle
                  have HE2 := Lib.hid e2
                  have HQ0 := Lib.hid hpa.c0
                  have HQ1 := Lib.hid hpb.c1
                  have HLe := Lib.hid hle
                  have HQ := Lib.hid hq1
                  clear e2 hpr hpa hpb hle hq1
                  refine div20b (j1 := q1) 20 (by kernel_rfl) rfl rfl rfl rfl rfl rfl rfl rfl rfl rfl rfl rfl rfl rfl rfl rfl rfl rfl rfl rfl rfl rfl rfl rfl rfl rfl rfl rfl rfl rfl (show 160 ≤ 160 from by decide) (fun _ _ _ _ _ h => h) rfl rfl rfl rfl hkn hqm HQ.out (by omega) HE2.out HQ0.out HQ1.out HLe.out ?_
                  intro z0 z1 z2 z3 z4 z5 z6 z7 z8 z9 z10 z11 z12 z13 z14 z15 z16 z17 z18 z19 z20 z21 z22 z23 z24 z25 z26 z27 z28 w8 HB8
                  simp only [Act.put, List.setIfInBounds_toArray, List.set_cons_zero, List.set_cons_succ]
                  have HBx8 : Hid (Below w6.heap.size w6 w8) := Lib.hid (HBx.out.trans (HB8.out.mono HBx.out.size))
                  clear HB8 HBx HFB HE2 HQ0 HQ1 HLe HQ
                  go_wp2
                  go_roundw
                  case rel => exact ⟨q + 1, by omega, by go_num, by go_num, HBx8.out⟩
                  case measure => simp [intOf]; omega
          · obtain rfl : q = mi := by omega
            clear hpr
            go_wp2
            clear d2
            go_roundw
            case rel => exact ⟨0 + 1, by omega, by go_num, by rw [Hck1.out], HBq.out⟩
            case measure => simp [intOf]; omega
      · obtain ⟨k1, hk1⟩ : ∃ k1, k = k1 + 1 := ⟨k - 1, by omega⟩
        obtain ⟨B1, cb1, _, _, e2, hpr1⟩ := du_cells HDu HBk.out (show k1 < ds.length by omega)
        have hm1 := HDv.out.ne k1 (by omega)
        obtain ⟨gQ, oQ, B3, m3, c3, rfl, hpb⟩ := pr_cells (Lib.hid hpr1) (Below.refl _ _) hm1
        have hlt := HDv.out.asc k1 (by omega)
        rw [← hk1] at hlt
        obtain ⟨mj, Hmj⟩ : ∃ x, Hid (x = (uP ds k1).length) := ⟨_, Lib.hid rfl⟩
        rw [← Hmj.out] at e2 hm1
        have HE2 := Lib.hid e2
        have HFb := Lib.hid hpb.c0
        have HLt := Lib.hid hlt
        have HK1 := Lib.hid hk1
        clear e2 hpr1 hpb hlt hk1
        refine div10b (i1 := k1) 10 (by kernel_rfl) rfl rfl rfl rfl rfl rfl rfl rfl rfl rfl rfl rfl rfl rfl rfl rfl rfl rfl rfl rfl rfl rfl rfl rfl rfl rfl rfl rfl rfl rfl rfl rfl rfl (show 160 ≤ 160 from by decide) (fun _ _ _ _ _ h => h) rfl rfl hkn HK1.out (by omega) hm0 hm1 HD2.out HE2.out HF.out HFb.out HLt.out ?_
        intro z0 z1 z2 z3 z4 z5 z6 z7 z8 z9 z10 z11 z12 z13 z14 z15 z16 z17 z18 z19 z20 z21 z22 z23 z24 z25 z26 z27 z28 z29 z30 z31 w7 HB7
        simp only [Act.put, List.setIfInBounds_toArray, List.set_cons_zero, List.set_cons_succ]
        have HBk7 : Hid (Below w6.heap.size w6 w7) := Lib.hid (HBk.out.trans (HB7.out.mono HBk.out.size))
        clear HD2 HF HE2 HFb HLt HK1 Hmj hm1 HB7 HBk
        go_wp2
        go_loopw [9, 11] (fun nv j wq => ∃ q : Nat, q ≤ mi ∧ j = .int .i64 q ∧ nv = .int .i64 ((ck + q : Nat) : Int) ∧ Below w6.heap.size w6 wq) (fun _ j _ => mi - (intOf j).toNat)
        case atStart => exact ⟨0, Nat.zero_le _, rfl, rfl, HBk7.out⟩
        case round =>
          obtain ⟨q, hq, rfl, rfl, hbq⟩ := hrel
          have HBq := Lib.hid hbq
          clear hbq
          obtain ⟨B, cb, _, _, d2, hpr⟩ := du_cells HDu HBq.out hkd
          rw [← Hmi.out] at d2
          by_cases hqm : q < mi
          · have hqu : q < (uP ds k).length := by rw [← Hmi.out]; exact hqm
            obtain ⟨f, Hf⟩ : ∃ x, Hid (x = pF (uP ds k) q) := ⟨_, Lib.hid rfl⟩
            obtain ⟨t, Ht⟩ : ∃ x, Hid (x = pT (uP ds k) q) := ⟨_, Lib.hid rfl⟩
            have HFn : Hid (∃ y, y < ps.length ∧ pF ps y = f ∧ pT ps y = t) := Lib.hid (by
              obtain ⟨y, h1, h2, h3⟩ := HDv.out.fnd k q hkd hqu
              exact ⟨y, h1, by rw [Hf.out, h2], by rw [Ht.out, h3]⟩)
            clear hpr
            go_wp2
            clear d2
            go_loopw [12, 13] (fun fv xv wx => ∃ (x : Nat) (fb : Bool), x ≤ ps.length ∧ xv = .int .i64 x ∧ fv = .bool fb ∧ (∀ y, y < x → pF ps y = f → pT ps y = t → fb = true) ∧ Below w6.heap.size w6 wx) (fun _ xv _ => ps.length - (intOf xv).toNat)
            case atStart => exact ⟨0, false, Nat.zero_le _, rfl, rfl, fun y hy => by omega, HBq.out⟩
            case round =>
              obtain ⟨x, fb, hx, rfl, rfl, hfb, hbx⟩ := hrel
              have HBx := Lib.hid hbx
              have HFB := Lib.hid hfb
              clear hbx hfb
              by_cases hxl : x < ps.length
              · go_upto_region 19 with (fail)
                cases fb with
                | true =>
                  refine div19a 19 (by kernel_rfl) rfl rfl rfl rfl rfl rfl rfl rfl rfl rfl rfl rfl rfl rfl rfl rfl rfl rfl rfl (show 160 ≤ 160 from by decide) (fun _ _ _ _ _ h => h) rfl ?_
                  intro z0 z1 z2 z3 z4 z5 z6 z7 z8 z9 z10 z11 z12 z13 z14 z15 z16 z17 w8 HB8
                  simp only [Act.put, List.setIfInBounds_toArray, List.set_cons_zero, List.set_cons_succ]
                  have HBx8 : Hid (Below w6.heap.size w6 w8) := Lib.hid (HBx.out.trans (HB8.out.mono HBx.out.size))
                  clear HB8 HBx HFB
                  go_wp2
                  go_roundw
                  case rel => exact ⟨x + 1, true, by omega, by go_num, rfl, fun _ _ _ _ => rfl, HBx8.out⟩
                  case measure => simp [intOf]; omega
                | false =>
                  obtain ⟨B, cb, _, _, e2, hpr⟩ := du_cells HDu HBx.out hkd
                  rw [← Hmi.out] at e2
                  obtain ⟨gP, oP, B2, m2, c2, rfl, hpa⟩ := pr_cells (Lib.hid hpr) (Below.refl _ _) hqu
                  obtain ⟨gL, oL, B3, m3, c3, hA, hpl⟩ := pr_cells HP6 HBx.out hxl
                  subst hA
                  have HE2 := Lib.hid e2
                  have HQ0 := Lib.hid hpa.c0
                  have HQ1 := Lib.hid hpa.c1
                  have HX0 := Lib.hid hpl.c0
                  have HX1 := Lib.hid hpl.c1
                  rw [← Hf.out] at HQ0
                  rw [← Ht.out] at HQ1
                  clear e2 hpr hpa hpl
                  refine div19b (f := f) (t := t) (lf := pF ps x) (lt := pT ps x) 19 (by kernel_rfl) rfl rfl rfl rfl rfl rfl rfl rfl rfl rfl rfl rfl rfl rfl rfl rfl rfl rfl rfl (show 160 ≤ 160 from by decide) (fun _ _ _ _ _ h => h) rfl rfl rfl rfl rfl rfl hxl hkn hqm HX0.out HX1.out HE2.out HQ0.out HQ1.out ?_
                  intro z0 z1 z2 z3 z4 z5 z6 z7 z8 z9 z10 z11 z12 z13 z14 z15 z16 z17 w8 HB8
                  simp only [Act.put, List.setIfInBounds_toArray, List.set_cons_zero, List.set_cons_succ]
                  have HBx8 : Hid (Below w6.heap.size w6 w8) := Lib.hid (HBx.out.trans (HB8.out.mono HBx.out.size))
                  obtain ⟨fb2, Hfb2⟩ : ∃ z, Hid (z = (pF ps x == f && pT ps x == t)) := ⟨_, Lib.hid rfl⟩
                  rw [← Hfb2.out]
                  have HFB2 : Hid (∀ y, y < x + 1 → pF ps y = f → pT ps y = t → fb2 = true) := Lib.hid (fun y hy h1 h2 => by
                    rcases Nat.lt_or_ge y x with hyx | hyx
                    · exact absurd (HFB.out y hyx h1 h2) (by decide)
                    · obtain rfl : y = x := by omega
                      rw [Hfb2.out]
                      simp [h1, h2])
                  clear HB8 HBx HFB HE2 HQ0 HQ1 HX0 HX1 Hfb2
                  go_wp2
                  go_roundw
                  case rel => exact ⟨x + 1, fb2, by omega, by go_num, rfl, HFB2.out, HBx8.out⟩
                  case measure => simp [intOf]; omega
              · have hfb : fb = true := by
                  obtain ⟨y, h1, h2, h3⟩ := HFn.out
                  exact HFB.out y (by omega) h2 h3
                subst hfb
                go_upto_region 20 with (fail)
                by_cases hq0 : q = 0
                · subst hq0
                  refine div20a 20 (by kernel_rfl) rfl rfl rfl rfl rfl rfl rfl rfl rfl rfl rfl rfl rfl rfl rfl rfl rfl rfl rfl rfl rfl rfl rfl rfl rfl rfl rfl rfl rfl rfl (show 160 ≤ 160 from by decide) (fun _ _ _ _ _ h => h) rfl rfl ?_
                  intro z0 z1 z2 z3 z4 z5 z6 z7 z8 z9 z10 z11 z12 z13 z14 z15 z16 z17 z18 z19 z20 z21 z22 z23 z24 z25 z26 z27 z28 w8 HB8
                  simp only [Act.put, List.setIfInBounds_toArray, List.set_cons_zero, List.set_cons_succ]
                  have HBx8 : Hid (Below w6.heap.size w6 w8) := Lib.hid (HBx.out.trans (HB8.out.mono HBx.out.size))
                  clear HB8 HBx HFB
                  go_wp2
                  go_roundw
                  case rel => exact ⟨0 + 1, by omega, by go_num, by go_num, HBx8.out⟩
                  case measure => simp [intOf]; omega
                · obtain ⟨q1, hq1⟩ : ∃ q1, q = q1 + 1 := ⟨q - 1, by omega⟩
                  obtain ⟨B, cb, _, _, e2, hpr⟩ := du_cells HDu HBx.out hkd
                  rw [← Hmi.out] at e2
                  obtain ⟨gP, oP, B2, m2, c2, rfl, hpa⟩ := pr_cells (Lib.hid hpr) (Below.refl _ _) hqu
                  obtain ⟨gP', oP', B3, m3, c3, hA, hpb⟩ := pr_cells (Lib.hid hpr) (Below.refl _ _) (show q1 < (uP ds k).length by omega)
                  injection hA with hA
                  injection hA with hA1 hA2
                  subst hA1 hA2
                  have hle := HDv.out.ord k q1 hkd (by omega)
                  rw [← hq1] at hle
                  have HE2 := Lib.hid e2
                  have HQ0 := Lib.hid hpa.c0
                  have HQ1 := Lib.hid hpb.c1
                  have HLe := Lib.hid hle
                  have HQ := Lib.hid hq1
                  clear e2 hpr hpa hpb hle hq1
                  refine div20b (j1 := q1) 20 (by kernel_rfl) rfl rfl rfl rfl rfl rfl rfl rfl rfl rfl rfl rfl rfl rfl rfl rfl rfl rfl rfl rfl rfl rfl rfl rfl rfl rfl rfl rfl rfl rfl (show 160 ≤ 160 from by decide) (fun _ _ _ _ _ h => h) rfl rfl rfl rfl hkn hqm HQ.out (by omega) HE2.out HQ0.out HQ1.out HLe.out ?_
                  intro z0 z1 z2 z3 z4 z5 z6 z7 z8 z9 z10 z11 z12 z13 z14 z15 z16 z17 z18 z19 z20 z21 z22 z23 z24 z25 z26 z27 z28 w8 HB8
                  simp only [Act.put, List.setIfInBounds_toArray, List.set_cons_zero, List.set_cons_succ]
                  have HBx8 : Hid (Below w6.heap.size w6 w8) := Lib.hid (HBx.out.trans (HB8.out.mono HBx.out.size))
                  clear HB8 HBx HFB HE2 HQ0 HQ1 HLe HQ
                  go_wp2
                  go_roundw
                  case rel => exact ⟨q + 1, by omega, by go_num, by go_num, HBx8.out⟩
                  case measure => simp [intOf]; omega
          · obtain rfl : q = mi := by omega
            clear hpr
            go_wp2
            clear d2
            go_roundw
            case rel => exact ⟨k + 1, by omega, by go_num, by rw [Hck1.out], HBq.out⟩
            case measure => simp [intOf]; omega
    · obtain rfl : k = n9 := by omega
      have hcn : cnt ds k = ps.length := by rw [Hn9.out]; exact HDv.out.cnt
      have HW : Hid (Below w.heap.size w wr) := Lib.hid (HBw6.out.trans (HBk.out.mono HBw6.out.size))
      rw [hcn]
      clear hcn
      go_wp2_with fail
      refine (sane_any _).mono ?_
      rintro e x2 ⟨rfl, hb⟩
      have HW := Lib.hid (HW.out.trans (hb.mono HW.out.size))
      clear hb
      go_wp2
      go_ret
      exact ⟨rfl, HW.out⟩
end Go.Proofs.Ytagkdkkpgcolkaa
