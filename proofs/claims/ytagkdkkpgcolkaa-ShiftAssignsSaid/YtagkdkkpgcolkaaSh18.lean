/-
  Chapter 10: made presences: Tape.Presences. The memory is that of the given program; no conditions.
-/
import Derived.Test.YtagkdkkpgcolkaaSh15s
import Derived.Test.YtagkdkkpgcolkaaRegS
import Derived.Test.YtagkdkkpgcolkaaZoneGen
namespace Go.Proofs.Ytagkdkkpgcolkaa
open Go.RowKit
set_option linter.unusedVariables false
set_option linter.unusedSimpArgs false
theorem rdI_blk {w : World} {gl : Nat} {t : TypeId} {l : List Int} (h : Blk w gl t (l.map (Value.int .i64)).toArray) : RdI w w.heap.size (some ⟨gl, 0, none⟩) l := by
  intro _
  refine ⟨gl, 0, rfl, h.lt, fun i j hi hj => ?_⟩
  have hj0 : j = 0 := by omega
  subst hj0
  have := h.cell i
  simp only [Nat.zero_add, Nat.mul_one, Nat.add_zero]
  rw [this]
  simp [at1, hi]
theorem only_chg {S : Nat → Prop} {g : Nat} {a b c : World} (h : Only g a b) (k : Chg S b c) (hs : ∀ i, i < a.heap.size → S i → i = g) : Only g a c :=
  ⟨k.os.trans h.os, k.tape.trans h.tape, k.output.trans h.output, Nat.le_trans h.size k.size, fun i hi hne => (k.block i (Nat.lt_of_lt_of_le hi h.size) (fun e => hne (by rw [hs i hi e]))).trans (h.block i hi hne)⟩
theorem chg_only {g : Nat} {a b : World} (h : Only g a b) : Chg (fun i => i = g) a b := Chg.of_grown h (fun i _ e => by injection e with e; exact e.symm)
theorem Deck.blk {w : World} {g : Nat} {M : Int} (h : Deck w g M) : ∃ cs, Blk w g 66 cs := by
  obtain ⟨A, c, l, k, hb, _⟩ := h
  exact ⟨_, hb⟩
/-- in the middle of the region: the box of the presence, the row of presences, the tape -/
structure EP (w : World) (g gp base : Nat) (cs : Array Value) (v0 v : Value) (n : Nat) (xs : List Value) (M : Int) (W : World) : Prop where
  box : Blk W gp 58 cs
  own : W.ownsRow base 58 3 v n xs
  deck : Deck W g M
  chg : Chg (fun b => b = g ∨ v0.ownBlock = some b) w W
  ngp : v.ownBlock ≠ some gp
  nv : v.ownBlock = v0.ownBlock ∨ ∃ b, v.ownBlock = some b ∧ w.heap.size ≤ b
section
variable {w W : World} {g gp base n : Nat} {cs : Array Value} {v0 v : Value} {xs : List Value} {M : Int}
theorem EP.alloc (h : EP w g gp base cs v0 v n xs M W) (o : Obj) : EP w g gp base cs v0 v n xs M (W.alloc o) := ⟨h.box.alloc o, h.own.alloc o, h.deck.alloc o, h.chg.alloc o, h.ngp, h.nv⟩
theorem EP.app {A : Option Addr} {c : Nat} (h : EP w g gp base cs v0 (.slice A n c) n xs M W) (hg : g < base) (hb : base ≤ w.heap.size) {ad : Addr} {news : List Value} (hs : Src W 3 (some ad) 1 news) (h1 : ∀ u ∈ news, u.oneCell' = true) (hn : n ≤ 100000) :
    ∃ A' c' w', (Builtin.append_ #[45, 45] 45 #[.slice A n c, .slice (some ad) 1 1]).run Try.prog W = .ok (.slice A' (n + 1) c') w' ∧ EP w g gp base cs v0 (.slice A' (n + 1) c') (n + 1) (xs ++ news) M w' ∧ ∀ b t bs, Blk W b t bs → t ≠ 58 → Blk w' b t bs := by
  obtain ⟨ip, hip, hip0, hip1, hip2⟩ := info_parts infoPr
  obtain ⟨A', c', w', r1, r2, r3, r4⟩ := append_full (P := Try.prog) W base 45 45 58 ip _ 3 40 undPr hip hip0 hip1 hip2 rfl (by decide) _ n _ h.own (some ad) 1 1 news hs h1 (by unfold maxLen; omega) (by omega) (Nat.le_trans hb h.chg.size)
  refine ⟨A', c', w', r1, ⟨h.box.grown r3 (fun e => h.ngp e.symm), r2, ?_, ?_, ?_, ?_⟩, fun b t bs hb2 hne => hb2.grown r3 (fun e => ?_)⟩
  · exact h.deck.below ((Below.refl base W).grown r3 (Nat.le_trans hb h.chg.size) (fun k hk => (h.own.lt k hk).1)) hg
  · refine h.chg.trans (Chg.of_grown (S := fun b => (Value.slice A n c).ownBlock = some b) r3 (fun i _ e => e)) (fun i hi e => ?_)
    rcases h.nv with hv | ⟨b, hv, hb3⟩
    · rw [hv] at e; exact .inr e
    · rw [hv] at e
      injection e with e
      omega
  · rcases r4 with r4 | r4
    · rw [r4]; exact h.ngp
    · rw [r4]
      intro e
      injection e with e
      have := h.box.lt
      omega
  · rcases r4 with r4 | r4
    · rw [r4]; exact h.nv
    · exact .inr ⟨_, r4, h.chg.size⟩
  · obtain ⟨cs', hc⟩ := own_blk h.own e.symm
    exact Blk.ne_ hb2 hc hne rfl
theorem EP.pick {gl m : Nat} {l : List Int} (h : EP w g gp base cs v0 v n xs M W) (hl : Blk W gl 3 (l.map (Value.int .i64)).toArray) (hm : m = l.length) (h0 : 0 < l.length) (hl6 : l.length ≤ 1000000) (hM : M ≤ 1000000) (hg : g < base) :
    Calls Try.prog 23 #[.pointer (some ⟨g, 0, none⟩), .slice (some ⟨gl, 0, none⟩) m m] W (fun e w' => ∃ u, e = .returned (.int .i64 u) ∧ u ∈ l ∧ EP w g gp base cs v0 v n xs (M + 1) w') := by
  subst hm
  obtain ⟨dcs, hd⟩ := h.deck.blk
  refine (pick_any g M (some ⟨gl, 0, none⟩) l.length _ l W h.deck hM (rdI_blk hl) (Nat.le_refl _) (fun b off e => ?_) h0 hl6).mono ?_
  · injection e with e
    injection e with e
    subst e
    exact Blk.ne_ hl hd (by decide)
  · rintro e w' ⟨u, rfl, hu, ho, hD⟩
    refine ⟨u, rfl, hu, h.box.grown ho (fun e => ?_), World.ownsRow.kept h.own ho (.inr (fun e => by have := (h.own.lt g e).1; omega)), hD, h.chg.trans (chg_only ho) (fun i _ e => .inl e), h.ngp, h.nv⟩
    injection e with e
    exact Blk.ne_ h.box hd (by decide) e
end
theorem x_ints5 {o : Oper} {a : Act} {w : World} (ho : o.op = .buildSlice 22 5 #[(0, .const (.int .i64 0)), (1, .const (.int .i64 15)), (2, .const (.int .i64 960)), (3, .const (.int .i64 480)), (4, .const (.int .i64 1))]) : (execOp a.eval o).run Try.prog w = .ok (.value (.slice (some ⟨w.heap.size, 0, none⟩) 5 5)) (w.alloc (.cells (([0, 15, 960, 480, 1] : List Int).map (Value.int .i64)).toArray 3)) := by
  have h : (execOp a.eval { o with op := .buildSlice 22 5 #[(0, .const (.int .i64 0)), (1, .const (.int .i64 15)), (2, .const (.int .i64 960)), (3, .const (.int .i64 480)), (4, .const (.int .i64 1))] }).run Try.prog w = .ok (.value (.slice (some ⟨w.heap.size, 0, none⟩) 5 5)) (w.alloc (.cells (([0, 15, 960, 480, 1] : List Int).map (Value.int .i64)).toArray 3)) := by kernel_rfl
  rw [← ho] at h
  exact h
theorem cfx23 (args : Array Value) (w : World) : (callFunc 23 args).run Try.prog w = .ok (.enter 23 args) w := by kernel_rfl
set_option maxHeartbeats 1600000 in
theorem pres15 {ops : Array Oper} {Q : Exit → Act → World → Prop} {a : Act} {w : World} (id : Nat) {y0 y1 y2 y4 y5 y6 y7 y9 y10 y11 y12 : TypeId} {q0 q1 q2 q3 q4 q5 q6 q7 q8 q9 q10 q11 q12 : String} {f0 f1 f2 f3 f4 f5 f6 f7 f8 f9 f10 f11 f12 : Array Edge} (hok : regT ops (.cons 0 true (.cons 7 true (.cons 1 true (.cons 4 true (.cons 5 true (.cons 6 true (.fork 2 8 (.fork 3 8 (.cons 8 false (.cons 9 false (.cons 10 true (.cons 11 true (.cons 12 true .nil))))) (.cons 3 false (.cons 9 false (.cons 10 true (.cons 11 true (.cons 12 true .nil)))))) (.cons 2 false (.cons 3 false (.cons 9 false (.cons 10 true (.cons 11 true (.cons 12 true .nil))))))))))))) = true)
    (h0 : ops[0]? = some ⟨(some 66), .move (.tmp 6), y0, q0, f0, none⟩) (h1 : ops[1]? = some ⟨(some 67), .load 58 (.tmp 8), y1, q1, f1, none⟩) (h2 : ops[2]? = some ⟨(some 68), .buildSlice 45 1 #[(0, .tmp 67)], y2, q2, f2, none⟩) (h3 : ops[3]? = some ⟨(some 69), .call { callee := .builtin .append, args := #[.tmp 66, .tmp 68], argTypes := #[45, 45] }, 45, q3, f3, none⟩) (h4 : ops[4]? = some ⟨(some 70), .fieldAddr 58 (.tmp 8) 0, y4, q4, f4, none⟩) (h5 : ops[5]? = some ⟨(some 71), .fieldAddr 38 (.tmp 70) 1, y5, q5, f5, none⟩) (h6 : ops[6]? = some ⟨(some 72), .load 3 (.tmp 71), y6, q6, f6, none⟩) (h7 : ops[7]? = some ⟨(some 73), .move (.tmp 0), y7, q7, f7, none⟩) (h8 : ops[8]? = some ⟨(some 74), .buildSlice 22 5 #[(0, .const (.int .i64 0)), (1, .const (.int .i64 15)), (2, .const (.int .i64 960)), (3, .const (.int .i64 480)), (4, .const (.int .i64 1))], 22, q8, f8, none⟩) (h9 : ops[9]? = some ⟨(some 75), .call { callee := .value (.func 23), args := #[.tmp 73, .tmp 74], argTypes := #[27, 22] }, y9, q9, f9, none⟩) (h10 : ops[10]? = some ⟨(some 76), .binOp .add 3 (.tmp 72) (.tmp 75) 3, y10, q10, f10, none⟩) (h11 : ops[11]? = some ⟨(some 6), .assign (.tmp 69), y11, q11, f11, none⟩) (h12 : ops[12]? = some ⟨(some 5), .assign (.tmp 76), y12, q12, f12, none⟩)
    (hsz : 78 ≤ a.tmps.size) (hQ : ∀ c a (d : Nat) v w, Q (.panic c) (a.put (some d) v) w → Q (.panic c) a w) {g gp base n c m cb : Nat} {f t M : Int} {A B : Option Addr} {xs : List Value} (e0 : a.eval (.tmp 0) = .pointer (some ⟨g, 0, none⟩)) (e6 : a.eval (.tmp 6) = .slice A n c) (e8 : a.eval (.tmp 8) = .pointer (some ⟨gp, 0, none⟩))
    (hE : EP w g gp base #[.int .i64 f, .int .i64 t, .slice B m cb] (.slice A n c) (.slice A n c) n xs M w) (hg : g < base) (hb : base ≤ w.heap.size) (hn : n ≤ 100000) (hM : M ≤ 1000000) (ht : 0 ≤ t ∧ t ≤ 1000000000000)
    (K : ∀ z0 z1 z2 z3 z4 z5 z6 z7 z8 z9 z10 A' c' u w', Hid (EP w g gp base #[.int .i64 f, .int .i64 t, .slice B m cb] (.slice A n c) (.slice A' (n + 1) c') (n + 1) (xs ++ [.int .i64 f, .int .i64 t, .slice B m cb]) (M + 1) w') → Hid (u ∈ ([0, 15, 960, 480, 1] : List Int)) → Q .normal (((((((((((((a.put (some 66) z0).put (some 73) z1).put (some 67) z2).put (some 70) z3).put (some 71) z4).put (some 72) z5).put (some 68) z6).put (some 69) z7).put (some 74) z8).put (some 75) z9).put (some 76) z10).put (some 6) (.slice A' (n + 1) c')).put (some 5) (.int .i64 (t + u))) w') : (Code.region id ops true).wp Try.prog Q a w := by
  have hE0 : EP w g gp base #[.int .i64 f, .int .i64 t, .slice B m cb] (.slice A n c) (.slice A n c) n xs M w.drew := ⟨hE.box, hE.own, hE.deck, hE.chg.drew, hE.ngp, hE.nv⟩
  have cl : ∀ W, Blk W gp 58 #[.int .i64 f, .int .i64 t, .slice B m cb] → (loadVar 58 ⟨gp, 0, none⟩).run Try.prog W = .ok (.agg #[.int .i64 f, .int .i64 t, .slice B m cb]) W := fun W hW => load58 (hW.cell 0) (hW.cell 1) (hW.cell 2)
  have hr : ∀ u ∈ ([0, 15, 960, 480, 1] : List Int), -9223372036854775808 ≤ t + u ∧ t + u ≤ 9223372036854775807 := fun u hu => by simp at hu; omega
  refine wp_region_WS (S := fun W => Blk W gp 58 #[.int .i64 f, .int .i64 t, .slice B m cb]) (by kernel_rfl) hok hQ hE0.box ?_
  refine stake_ (i := 0) (d := some 66) (v := (.slice A n c)) h0 (wanted_none rfl) rfl (fun W hW => x_move rfl e6) ?_
  refine stake_ (i := 7) (d := some 73) (v := (.pointer (some ⟨g, 0, none⟩))) h7 (wanted_none rfl) rfl (fun W hW => x_move rfl (pO (by decide) e0)) ?_
  refine stake_ (i := 1) (d := some 67) (v := (.agg #[.int .i64 f, .int .i64 t, .slice B m cb])) h1 (wanted_none rfl) rfl (fun W hW => exec_load rfl (pO (by decide) (pO (by decide) e8)) (cl W hW)) ?_
  refine stake_ (i := 4) (d := some 70) (v := (.pointer (some ⟨gp, 0, none⟩))) h4 (wanted_none rfl) rfl (fun W hW => x_field rfl (pO (by decide) (pO (by decide) (pO (by decide) e8))) (field58 W gp _)) ?_
  refine stake_ (i := 5) (d := some 71) (v := (.pointer (some ⟨gp, 0 + 1, none⟩))) h5 (wanted_none rfl) rfl (fun W hW => x_field rfl (pS (pZ (pZ (pZ hsz))) (by decide)) (field38b W gp _)) ?_
  refine stake_ (i := 6) (d := some 72) (v := (.int .i64 t)) h6 (wanted_none rfl) rfl (fun W hW => exec_load rfl (pS (pZ (pZ (pZ (pZ hsz)))) (by decide)) (load3 (hW.cell 1))) ?_
  refine sfork2_ (i := 2) (j := 8) (d := some 68) (d' := some 74) (v := (.slice (some ⟨w.drew.heap.size, 0, none⟩) 1 1)) (w'' := w.drew.alloc (.cells #[.int .i64 f, .int .i64 t, .slice B m cb] 58)) (v' := (.slice (some ⟨w.drew.heap.size, 0, none⟩) 5 5)) (w' := w.drew.alloc (.cells (([0, 15, 960, 480, 1] : List Int).map (Value.int .i64)).toArray 3)) h2 (wanted_none rfl) rfl (exec_buildSlice rfl (pO (by decide) (pO (by decide) (pO (by decide) (pS (pZ (pZ hsz)) (by decide))))) (run_one45 _ _ _ _)) ((hE0.alloc _).box) h8 (wanted_none rfl) rfl (x_ints5 rfl) ((hE0.alloc _).box) ?_ ?_
  · obtain ⟨A1, c1, w1, r1, hE1, hk1⟩ := (hE0.alloc (.cells #[.int .i64 f, .int .i64 t, .slice B m cb] 58)).app hg hb (three_src w.drew 58 _ _ _) (three_one _ _ _ _ _) hn
    obtain ⟨A2, c2, w2, r2, hE2, hk2⟩ := ((hE0.alloc (.cells #[.int .i64 f, .int .i64 t, .slice B m cb] 58)).alloc (.cells (([0, 15, 960, 480, 1] : List Int).map (Value.int .i64)).toArray 3)).app hg hb (Src.alloc (three_src w.drew 58 _ _ _) _) (three_one _ _ _ _ _) hn
    refine sfork2_ (i := 3) (j := 8) (d := some 69) (d' := some 74) (v := (.slice A1 (n + 1) c1)) (w'' := w1) (v' := (.slice (some ⟨(w.drew.alloc (.cells #[.int .i64 f, .int .i64 t, .slice B m cb] 58)).heap.size, 0, none⟩) 5 5)) (w' := (w.drew.alloc (.cells #[.int .i64 f, .int .i64 t, .slice B m cb] 58)).alloc (.cells (([0, 15, 960, 480, 1] : List Int).map (Value.int .i64)).toArray 3)) h3 (wanted_none rfl) rfl (exec_append rfl (pO (by decide) (pO (by decide) (pO (by decide) (pO (by decide) (pO (by decide) (pO (by decide) (pS hsz (by decide)))))))) (pS (pZ (pZ (pZ (pZ (pZ (pZ hsz)))))) (by decide)) r1) (hE1.box) h8 (wanted_none rfl) rfl (x_ints5 rfl) (((hE0.alloc _).alloc _).box) ?_ ?_
    · refine sval_ (i := 8) (d := some 74) (v := (.slice (some ⟨w1.heap.size, 0, none⟩) 5 5)) (w' := w1.alloc (.cells (([0, 15, 960, 480, 1] : List Int).map (Value.int .i64)).toArray 3)) h8 (wanted_none rfl) rfl (x_ints5 rfl) ((hE1.alloc _).box) ?_
      refine scall_ (i := 9) (d := some 75) h9 (wanted_none rfl) rfl (x_call2 rfl (pO (by decide) (pO (by decide) (pO (by decide) (pO (by decide) (pO (by decide) (pO (by decide) (pO (by decide) (pS (pZ hsz) (by decide))))))))) (pS (pZ (pZ (pZ (pZ (pZ (pZ (pZ (pZ hsz)))))))) (by decide)) (cfx23 _ _)) (Calls.mono (EP.pick (hE1.alloc (.cells (([0, 15, 960, 480, 1] : List Int).map (Value.int .i64)).toArray 3)) (Blk.new _ _ _) rfl (by decide) (by decide) hM hg) ?_)
      rintro e w5 ⟨u, rfl, hu, hE5⟩
      refine ⟨_, rfl, hE5.box, ?_⟩
      refine stake_ (i := 10) (d := some 76) (v := (.int .i64 (t + u))) h10 (wanted_none rfl) rfl (fun W hW => x_bin rfl (pO (by decide) (pO (by decide) (pO (by decide) (pO (by decide) (pS (pZ (pZ (pZ (pZ (pZ hsz))))) (by decide)))))) (pS (pZ (pZ (pZ (pZ (pZ (pZ (pZ (pZ (pZ hsz))))))))) (by decide)) (add_int _ _ _ (hr u hu))) ?_
      refine stake_ (i := 11) (d := some 6) (v := (.slice A1 (n + 1) c1)) h11 (wanted_none rfl) rfl (fun W hW => x_assign rfl (pO (by decide) (pO (by decide) (pO (by decide) (pS (pZ (pZ (pZ (pZ (pZ (pZ (pZ hsz))))))) (by decide)))))) ?_
      refine stake_ (i := 12) (d := some 5) (v := (.int .i64 (t + u))) h12 (wanted_none rfl) rfl (fun W hW => x_assign rfl (pO (by decide) (pS (pZ (pZ (pZ (pZ (pZ (pZ (pZ (pZ (pZ (pZ hsz)))))))))) (by decide)))) ?_
      refine sdone_ ?_
      exact K _ _ _ _ _ _ _ _ _ _ _ _ _ _ _ (Lib.hid hE5) (Lib.hid hu)
    · refine sval_ (i := 3) (d := some 69) (v := (.slice A2 (n + 1) c2)) (w' := w2) h3 (wanted_none rfl) rfl (exec_append rfl (pO (by decide) (pO (by decide) (pO (by decide) (pO (by decide) (pO (by decide) (pO (by decide) (pO (by decide) (pS hsz (by decide))))))))) (pO (by decide) (pS (pZ (pZ (pZ (pZ (pZ (pZ hsz)))))) (by decide))) r2) (hE2.box) ?_
      refine scall_ (i := 9) (d := some 75) h9 (wanted_none rfl) rfl (x_call2 rfl (pO (by decide) (pO (by decide) (pO (by decide) (pO (by decide) (pO (by decide) (pO (by decide) (pO (by decide) (pS (pZ hsz) (by decide))))))))) (pO (by decide) (pS (pZ (pZ (pZ (pZ (pZ (pZ (pZ hsz))))))) (by decide))) (cfx23 _ _)) (Calls.mono (EP.pick hE2 (hk2 _ _ _ (Blk.new _ _ _) (by decide)) rfl (by decide) (by decide) hM hg) ?_)
      rintro e w5 ⟨u, rfl, hu, hE5⟩
      refine ⟨_, rfl, hE5.box, ?_⟩
      refine stake_ (i := 10) (d := some 76) (v := (.int .i64 (t + u))) h10 (wanted_none rfl) rfl (fun W hW => x_bin rfl (pO (by decide) (pO (by decide) (pO (by decide) (pO (by decide) (pS (pZ (pZ (pZ (pZ (pZ hsz))))) (by decide)))))) (pS (pZ (pZ (pZ (pZ (pZ (pZ (pZ (pZ (pZ hsz))))))))) (by decide)) (add_int _ _ _ (hr u hu))) ?_
      refine stake_ (i := 11) (d := some 6) (v := (.slice A2 (n + 1) c2)) h11 (wanted_none rfl) rfl (fun W hW => x_assign rfl (pO (by decide) (pO (by decide) (pS (pZ (pZ (pZ (pZ (pZ (pZ (pZ (pZ hsz)))))))) (by decide))))) ?_
      refine stake_ (i := 12) (d := some 5) (v := (.int .i64 (t + u))) h12 (wanted_none rfl) rfl (fun W hW => x_assign rfl (pO (by decide) (pS (pZ (pZ (pZ (pZ (pZ (pZ (pZ (pZ (pZ (pZ hsz)))))))))) (by decide)))) ?_
      refine sdone_ ?_
      rw [put_comm _ 74 69 _ _ (by decide)]
      exact K _ _ _ _ _ _ _ _ _ _ _ _ _ _ _ (Lib.hid hE5) (Lib.hid hu)
  · obtain ⟨A3, c3, w3, r3, hE3, hk3⟩ := ((hE0.alloc (.cells (([0, 15, 960, 480, 1] : List Int).map (Value.int .i64)).toArray 3)).alloc (.cells #[.int .i64 f, .int .i64 t, .slice B m cb] 58)).app hg hb (three_src (w.drew.alloc (.cells (([0, 15, 960, 480, 1] : List Int).map (Value.int .i64)).toArray 3)) 58 _ _ _) (three_one _ _ _ _ _) hn
    refine sval_ (i := 2) (d := some 68) (v := (.slice (some ⟨(w.drew.alloc (.cells (([0, 15, 960, 480, 1] : List Int).map (Value.int .i64)).toArray 3)).heap.size, 0, none⟩) 1 1)) (w' := (w.drew.alloc (.cells (([0, 15, 960, 480, 1] : List Int).map (Value.int .i64)).toArray 3)).alloc (.cells #[.int .i64 f, .int .i64 t, .slice B m cb] 58)) h2 (wanted_none rfl) rfl (exec_buildSlice rfl (pO (by decide) (pO (by decide) (pO (by decide) (pO (by decide) (pS (pZ (pZ hsz)) (by decide)))))) (run_one45 _ _ _ _)) (((hE0.alloc _).alloc _).box) ?_
    refine sval_ (i := 3) (d := some 69) (v := (.slice A3 (n + 1) c3)) (w' := w3) h3 (wanted_none rfl) rfl (exec_append rfl (pO (by decide) (pO (by decide) (pO (by decide) (pO (by decide) (pO (by decide) (pO (by decide) (pO (by decide) (pS hsz (by decide))))))))) (pS (pZ (pZ (pZ (pZ (pZ (pZ (pZ hsz))))))) (by decide)) r3) (hE3.box) ?_
    refine scall_ (i := 9) (d := some 75) h9 (wanted_none rfl) rfl (x_call2 rfl (pO (by decide) (pO (by decide) (pO (by decide) (pO (by decide) (pO (by decide) (pO (by decide) (pO (by decide) (pS (pZ hsz) (by decide))))))))) (pO (by decide) (pO (by decide) (pS (pZ (pZ (pZ (pZ (pZ (pZ hsz)))))) (by decide)))) (cfx23 _ _)) (Calls.mono (EP.pick hE3 (hk3 _ _ _ ((Blk.new _ _ _).alloc _) (by decide)) rfl (by decide) (by decide) hM hg) ?_)
    rintro e w5 ⟨u, rfl, hu, hE5⟩
    refine ⟨_, rfl, hE5.box, ?_⟩
    refine stake_ (i := 10) (d := some 76) (v := (.int .i64 (t + u))) h10 (wanted_none rfl) rfl (fun W hW => x_bin rfl (pO (by decide) (pO (by decide) (pO (by decide) (pO (by decide) (pS (pZ (pZ (pZ (pZ (pZ hsz))))) (by decide)))))) (pS (pZ (pZ (pZ (pZ (pZ (pZ (pZ (pZ (pZ hsz))))))))) (by decide)) (add_int _ _ _ (hr u hu))) ?_
    refine stake_ (i := 11) (d := some 6) (v := (.slice A3 (n + 1) c3)) h11 (wanted_none rfl) rfl (fun W hW => x_assign rfl (pO (by decide) (pO (by decide) (pS (pZ (pZ (pZ (pZ (pZ (pZ (pZ (pZ hsz)))))))) (by decide))))) ?_
    refine stake_ (i := 12) (d := some 5) (v := (.int .i64 (t + u))) h12 (wanted_none rfl) rfl (fun W hW => x_assign rfl (pO (by decide) (pS (pZ (pZ (pZ (pZ (pZ (pZ (pZ (pZ (pZ (pZ hsz)))))))))) (by decide)))) ?_
    refine sdone_ ?_
    rw [put_comm _ 74 68 _ _ (by decide)]
    rw [put_comm _ 74 69 _ _ (by decide)]
    exact K _ _ _ _ _ _ _ _ _ _ _ _ _ _ _ (Lib.hid hE5) (Lib.hid hu)
end Go.Proofs.Ytagkdkkpgcolkaa
namespace Go.Proofs.Ytagkdkkpgcolkaa
open Go.RowKit
set_option linter.unusedVariables false
set_option linter.unusedSimpArgs false
/-! ### Presences that are made -/
theorem prE_app {l : List Pr} {x : Pr} {k : Nat} (h : k ≤ l.length) : prE (l ++ [x]) k = prE l k := by
  cases k with
  | zero => rfl
  | succ k => exact (pB_app (show k < l.length by omega)).2.1
def PG (ps : List Pr) (a : Int) : Prop := prOk ps ps.length ∧ prE ps ps.length ≤ a ∧ 29453760 ≤ a ∧ a ≤ 29454240 + 1600 * ps.length
theorem PG.nil {a : Int} (h0 : 29453760 ≤ a) (h1 : a ≤ 29454240) : PG [] a := ⟨fun i h => by simp at h, by simp [prE]; omega, h0, by simpa using h1⟩
theorem PG.snoc {ps : List Pr} {a d e : Int} {bs : List (Int × Int)} (h : PG ps a) (hl : ps.length ≤ 10) (hd : 1 ≤ d ∧ d ≤ 545) (he : 0 ≤ e ∧ e ≤ 960) (hb : brOk a (a + d) bs bs.length) (hbl : bs.length ≤ 2) : PG (ps ++ [(a, a + d, bs)]) (a + d + e) := by
  obtain ⟨h1, h2, h3, h4⟩ := h
  refine ⟨fun i hi => ?_, ?_, by omega, by rw [List.length_append]; simp; omega⟩
  · rw [List.length_append] at hi
    simp only [List.length_cons, List.length_nil] at hi
    by_cases hlt : i < ps.length
    · have := h1 i hlt
      unfold prOk1 at this ⊢
      rw [prE_app (by omega), (pB_app hlt).1, (pB_app hlt).2.1, (pB_app hlt).2.2]
      exact this
    · have e1 : i = ps.length := by omega
      unfold prOk1
      rw [prE_app (by omega), (pB_end e1).1, (pB_end e1).2.1, (pB_end e1).2.2, e1]
      exact ⟨h2, by show a < a + d; omega, by show a + d ≤ 120968640; omega, by show bs.length ≤ 1024; omega, hb⟩
  · rw [List.length_append]
    show prE (ps ++ [(a, a + d, bs)]) (ps.length + 1) ≤ _
    rw [prE, (pB_end rfl).2.1]
    show a + d ≤ a + d + e
    omega
/-- breaks under way: the last one ends at b -/
def BG (f t : Int) (bs : List (Int × Int)) (b : Int) : Prop := brOk f t bs bs.length ∧ b = brE f bs bs.length ∧ f ≤ b ∧ b ≤ t
theorem BG.nil {f t : Int} (h : f ≤ t) : BG f t [] f := ⟨fun i h => by simp at h, rfl, Int.le_refl _, h⟩
theorem brE_app {f : Int} {bs : List (Int × Int)} {x : Int × Int} {k : Nat} (h : k ≤ bs.length) : brE f (bs ++ [x]) k = brE f bs k := by
  cases k with
  | zero => rfl
  | succ k => exact snd2_front _ _ _ (by omega)
theorem BG.snoc {f t b p q : Int} {bs : List (Int × Int)} (h : BG f t bs b) (h1 : b ≤ p) (h2 : p < q) (h3 : q ≤ t) : BG f t (bs ++ [(p, q)]) q := by
  obtain ⟨k1, k2, k3, k4⟩ := h
  refine ⟨fun i hi => ?_, ?_, by omega, h3⟩
  · rw [List.length_append] at hi
    simp only [List.length_cons, List.length_nil] at hi
    by_cases hlt : i < bs.length
    · have := k1 i hlt
      rw [brE_app (by omega), fst2_front _ _ _ hlt, snd2_front _ _ _ hlt]
      exact this
    · have e1 : i = bs.length := by omega
      subst e1
      rw [brE_app (Nat.le_refl _), fst2_last, snd2_last, ← k2]
      exact ⟨h1, h2, h3⟩
  · rw [List.length_append]
    show q = brE f (bs ++ [(p, q)]) (bs.length + 1)
    rw [brE, snd2_last]
theorem OwnPs.snocS {S : Nat → Prop} {W W' : World} {base N N' : Nat} {v v' : Value} {ps : List Pr} {ms : List M3} {f t : Int} {A : Option Addr} {c : Nat} {bs : List (Int × Int)} (h : OwnPs W base N v ps ms) (k : Chg S W W') (hS : ∀ b, S b → ∀ cs, ¬ Blk W b 38 cs)
    (hr : W'.ownsRow base 58 3 v' (ps.length + 1) (flatV ms ++ [.int .i64 f, .int .i64 t, .slice A bs.length c])) (hN : ∀ g, v'.ownBlock = some g → g < N')
    (hb : W'.ownsRow base 38 2 (.slice A bs.length c) bs.length (flat2 bs)) : OwnPs W' base N' v' (ps ++ [(f, t, bs)]) (ms ++ [(f, t, .slice A bs.length c)]) := by
  refine ⟨by rw [flatV_snoc, List.length_append]; exact hr, by simp [h.len], hN, fun j hj => ?_⟩
  rw [List.length_append] at hj
  simp only [List.length_cons, List.length_nil] at hj
  by_cases hlt : j < ps.length
  · have hm : j < ms.length := by rw [h.len]; exact hlt
    obtain ⟨e1, e2, A', c', e3, hr'⟩ := h.at_ j hlt
    rw [(mC_app hm).1, (mC_app hm).2.1, (mC_app hm).2.2, (pB_app hlt).1, (pB_app hlt).2.1, (pB_app hlt).2.2]
    refine ⟨e1, e2, A', c', e3, own_chg hr' k (fun g hg hs => ?_)⟩
    obtain ⟨cs, hc⟩ := own_blk hr' hg
    exact hS g hs cs hc
  · have hj1 : j = ps.length := by omega
    have hj2 : j = ms.length := by rw [h.len]; exact hj1
    rw [(mC_end hj2).1, (mC_end hj2).2.1, (mC_end hj2).2.2, (pB_end hj1).1, (pB_end hj1).2.1, (pB_end hj1).2.2]
    exact ⟨rfl, rfl, A, c, rfl, hb⟩
/-- in the middle of a presence: its box, the row of its breaks, the tape -/
structure IB (w0 w : World) (g gp : Nat) (f t : Int) (M : Int) (B : Option Addr) (cb : Nat) (bs : List (Int × Int)) (W : World) : Prop where
  box : Blk W gp 58 #[.int .i64 f, .int .i64 t, .slice B bs.length cb]
  own : W.ownsRow w.heap.size 38 2 (.slice B bs.length cb) bs.length (flat2 bs)
  deck : Deck W g M
  only : Only g w W
section
variable {w0 w W W' : World} {g gp cb : Nat} {f t M M' : Int} {B : Option Addr} {bs : List (Int × Int)}
theorem IB.more (h : IB w0 w g gp f t M B cb bs W) (hM : M ≤ M') : IB w0 w g gp f t M' B cb bs W := ⟨h.box, h.own, h.deck.more hM, h.only⟩
theorem IB.draw (h : IB w0 w g gp f t M B cb bs W) (hg : g < w.heap.size) (ho : Only g W W') (hD : Deck W' g M') : IB w0 w g gp f t M' B cb bs W' := by
  obtain ⟨dcs, hd⟩ := h.deck.blk
  refine ⟨h.box.grown ho (fun e => ?_), World.ownsRow.kept h.own ho (.inr (fun e => by have := (h.own.lt g e).1; omega)), hD, h.only.trans ho⟩
  injection e with e
  exact Blk.ne_ h.box hd (by decide) e
theorem IB.app (h : IB w0 w g gp f t M B cb bs W) (hg : g < w.heap.size) (hp : w.heap.size ≤ gp) {B' : Option Addr} {c' : Nat} {p q : Int} {ob : Obj} (hown : W'.ownsRow w.heap.size 38 2 (.slice B' (bs.length + 1) c') (bs.length + 1) (flat2 bs ++ [.int .i64 p, .int .i64 q])) (hgr : (W.alloc ob).grownBy W' (Value.slice B bs.length cb).ownBlock) :
    Blk W' gp 58 #[.int .i64 f, .int .i64 t, .slice B bs.length cb] ∧ IB w0 w g gp f t M B' c' (bs ++ [(p, q)]) (W'.setCell ⟨gp, 2, none⟩ (.slice B' (bs.length + 1) c')) := by
  have hb := (h.box.alloc ob).grown hgr (fun e => by
    obtain ⟨cs, hc⟩ := own_blk h.own e.symm
    exact Blk.ne_ hc h.box (by decide) rfl)
  have hbel : Below w.heap.size (W.alloc ob) W' := (Below.refl w.heap.size _).grown hgr (by have := h.only.size; simp; omega) (fun k hk => (h.own.lt k hk).1)
  have hO : Only gp W' (W'.setCell ⟨gp, 2, none⟩ (.slice B' (bs.length + 1) c')) := (Only.refl gp W').setCell (p := ⟨gp, 2, none⟩) (.inl rfl) _
  refine ⟨hb, ?_, ?_, ?_, ?_⟩
  · have := hb.set_ 2 (.slice B' (bs.length + 1) c')
    rw [List.length_append]
    simpa using this
  · rw [List.length_append, flat2_snoc']
    refine World.ownsRow.kept hown hO (.inr (fun e => ?_))
    obtain ⟨cs, hc⟩ := own_blk hown e
    exact Blk.ne_ hc hb (by decide) rfl
  · exact ((h.deck.alloc ob).below hbel hg).only hO (by omega)
  · exact (only_bel (h.only.alloc ob) hbel).setCell (p := ⟨gp, 2, none⟩) (.inr hp) _
end
def PrPost (g : Nat) (M : Int) (w : World) (e : Ending) (w' : World) : Prop := ∃ A c ps ms a, e = .returned (.slice A ps.length c) ∧ ps.length ≤ 7 ∧ PG ps a ∧ OwnPs w' w.heap.size w'.heap.size (.slice A ps.length c) ps ms ∧ Only g w w' ∧ Deck w' g M
set_option maxRecDepth 100000 in
set_option maxHeartbeats 6400000 in
theorem presences_any (g : Nat) (N ni : Int) (n : Nat) (w : World) (hD : Deck w g N) (hN : N ≤ 800000) (hni : ni = n) (hn : n ≤ 7) :
    Calls Try.prog 21 #[.pointer (some ⟨g, 0, none⟩), .int .i64 ni] w (PrPost g (N + 80) w) := by
  subst hni
  have hgl := hD.lt
  obtain ⟨idi, hii, hii0, hii1, hii2⟩ := info_parts infoIv
  have HII := Lib.hid hii
  have HII0 := Lib.hid hii0
  have HII1 := Lib.hid hii1
  have HII2 := Lib.hid hii2
  clear hii hii0 hii1 hii2
  have HD0 := Lib.hid hD
  clear hD
  go_enter Try.func21, Try.ntmps21
  go_wp2_with fail
  refine (pick_new g N [0, 420, 470, 480] _ 3 4 HD0.out (by omega) (by decide) (by decide)).mono ?_
  rintro e w1 ⟨a0, rfl, hu, ho, hD⟩
  have ha0 : 0 ≤ a0 ∧ a0 ≤ 480 := by simp at hu; omega
  have HO1 := Lib.hid ho
  have HD1 := Lib.hid hD
  clear hu ho hD HD0
  go_wp2_with fail
  refine (next_any g (N + 1) (n + 1) _ HD1.out (by omega) (by omega) (by omega)).mono ?_
  rintro e w2 ⟨k0, rfl, hk0, ho, hD⟩
  have HO2 := Lib.hid (HO1.out.trans ho)
  have HD2 := Lib.hid hD
  clear ho hD HO1 HD1
  obtain ⟨kn, rfl⟩ : ∃ k : Nat, k0 = k := ⟨k0.toNat, by omega⟩
  go_wp2
  go_loopw [5, 6, 7] (fun av v i wr => ∃ (k : Nat) (at_ : Int) (ps : List Pr) (ms : List M3) (A : Option Addr) (c : Nat), i = .int .i64 k ∧ av = .int .i64 at_ ∧ v = .slice A ps.length c ∧ ps.length + k ≤ n ∧ PG ps at_ ∧ OwnPs wr w.heap.size wr.heap.size (.slice A ps.length c) ps ms ∧ Only g w wr ∧ Deck wr g (N + 2 + 8 * ps.length)) (fun _ _ i _ => (intOf i).toNat)
  case atStart => exact ⟨kn, _, [], [], none, 0, rfl, rfl, rfl, by simp; omega, PG.nil (by omega) (by omega), OwnPs.nil _ _ _, HO2.out, HD2.out.more (by simp; omega)⟩
  case round =>
    obtain ⟨k, at_, ps, ms, A, c, rfl, rfl, rfl, hkn, hpg, hps, hor, hdr⟩ := hrel
    obtain ⟨wo, hwo⟩ : ∃ W, W = wr := ⟨_, rfl⟩
    subst hwo
    have HPG := Lib.hid hpg
    have HPS := Lib.hid hps
    have HOr := Lib.hid hor
    have HDr := Lib.hid hdr
    have hat : 29453760 ≤ at_ ∧ at_ ≤ 29480000 := by have := hpg.2.2; omega
    clear hpg hps hor hdr HO2 HD2
    by_cases hk : 0 < k
    · have hgr : Hid (g < wo.heap.size) := Lib.hid HDr.out.lt
      go_wp2_with fail
      refine (pick_new g (N + 2 + 8 * ps.length) [480, 1, 300, 545, 90] _ 3 5 HDr.out (by omega) (by decide) (by decide)).mono ?_
      rintro e w3 ⟨dd, rfl, hu, ho, hD⟩
      have hdd : 1 ≤ dd ∧ dd ≤ 545 := by simp at hu; omega
      have HO3 := Lib.hid ho
      have HD3 := Lib.hid hD
      clear hu ho hD
      go_upto_region 8 with (fail)
      obtain ⟨t, Ht⟩ : ∃ t, Hid (t = at_ + dd) := ⟨_, Lib.hid rfl⟩
      have hteq : t = at_ + dd := Ht.out
      obtain ⟨gp, Hgp⟩ : ∃ x, Hid (x = w3.heap.size) := ⟨_, Lib.hid rfl⟩
      obtain ⟨w4, Hw4⟩ : ∃ W, Hid (W = w3.alloc (.cells #[.int .i64 at_, .int .i64 (at_ + dd), .slice none 0 0] 58)) := ⟨_, Lib.hid rfl⟩
      rw [← Hw4.out, ← Hgp.out, ← Ht.out]
      have HIB4 : Hid (IB w wo g gp at_ t (N + 2 + 8 * ps.length + 1) none 0 [] w4) := Lib.hid (by
        rw [Hw4.out, Hgp.out, Ht.out]
        exact ⟨Blk.new _ _ _, World.ownsRow_nil _ _ _ _, HD3.out.alloc _, HO3.out.alloc _⟩)
      have HGP : Hid (wo.heap.size ≤ gp) := Lib.hid (by rw [Hgp.out]; exact HO3.out.size)
      clear Hw4 Hgp HO3 HD3
      go_wp2_with fail
      refine (next_any g _ 3 _ HIB4.out.deck (by omega) (by omega) (by omega)).mono ?_
      rintro e w5 ⟨q0, rfl, hq0, ho, hD⟩
      have HIB5 := Lib.hid (HIB4.out.draw hgr.out ho hD)
      clear ho hD HIB4
      obtain ⟨qn, rfl⟩ : ∃ k : Nat, q0 = k := ⟨q0.toNat, by omega⟩
      go_wp2
      go_loopw [9, 10] (fun bv i wq => ∃ (q : Nat) (b : Int) (bs : List (Int × Int)) (B : Option Addr) (cb : Nat), i = .int .i64 q ∧ bv = .int .i64 b ∧ bs.length + q ≤ 2 ∧ BG at_ t bs b ∧ IB w wo g gp at_ t (N + 2 + 8 * ps.length + 2 + 2 * (2 - (q : Int))) B cb bs wq) (fun _ i _ => (intOf i).toNat)
      case atStart => exact ⟨qn, _, [], none, 0, rfl, rfl, by simp; omega, BG.nil (by omega), HIB5.out.more (by omega)⟩
      case round =>
        obtain ⟨q, b, bs, B, cb, rfl, rfl, hq, hbg, hib⟩ := hrel
        have HBG := Lib.hid hbg
        have HIB := Lib.hid hib
        have hbt : at_ ≤ b ∧ b ≤ t := hbg.2.2
        clear hbg hib HIB5
        by_cases hq0 : 0 < q
        · go_wp2_with fail
          refine (pick_new g _ [0, 60, 120, 7] _ 3 4 HIB.out.deck (by omega) (by decide) (by decide)).mono ?_
          rintro e w6 ⟨x, rfl, hu, ho, hD⟩
          have hx : 0 ≤ x ∧ x ≤ 120 := by simp at hu; omega
          have HIB6 := Lib.hid (HIB.out.draw hgr.out ho hD)
          clear hu ho hD HIB
          go_wp2_with fail
          refine (pick_new g _ [15, 30, 45] _ 3 3 HIB6.out.deck (by omega) (by decide) (by decide)).mono ?_
          rintro e w7 ⟨y, rfl, hu, ho, hD⟩
          have hy : 15 ≤ y ∧ y ≤ 45 := by simp at hu; omega
          have HIB7 := Lib.hid (HIB6.out.draw hgr.out ho hD)
          clear hu ho hD HIB6
          have p1 : w7.cell? ⟨gp, 1, none⟩ = some (.int .i64 t) := by have := HIB7.out.box.cell 1; simpa using this
          have p2 : w7.cell? ⟨gp, 2, none⟩ = some (.slice B bs.length cb) := by have := HIB7.out.box.cell 2; simpa using this
          by_cases hle : b + x + y ≤ t
          · have hd1 : decide (b + x + y ≤ t) = true := decide_eq_true hle
            have hsz7 : gp < w7.heap.size := HIB7.out.box.lt
            have HB7 : Hid (wo.heap.size ≤ w7.heap.size) := Lib.hid HIB7.out.only.size
            have H3s : Hid (Src (w7.alloc (.cells #[.int .i64 (b + x), .int .i64 (b + x + y)] 38)) 2 (some ⟨w7.heap.size, 0, none⟩) 1 [.int .i64 (b + x), .int .i64 (b + x + y)]) := Lib.hid (two_src w7 _ _ _)
            have H3o : Hid (∀ u ∈ [Value.int .i64 (b + x), Value.int .i64 (b + x + y)], u.oneCell' = true) := Lib.hid (two_one _ _)
            go_wp2_with (at_builtin; refine wpList_app rfl (.tmp 58) (.tmp 62) 56 rfl wo.heap.size 38 idi _ 2 16 undIv HII.out HII0.out HII1.out HII2.out rfl (by decide) _ bs.length _ rfl (HIB7.out.own.alloc _) _ 1 1 _ rfl H3s.out H3o.out ?_ ?_ ?_ ?_)
            · unfold maxLen; omega
            · omega
            · have h1 := HB7.out; simp; omega
            intro B8 c8 w8 Ho8 Hg8 Hat8
            have HA8 := Lib.hid (HIB7.out.app hgr.out HGP.out Ho8.out Hg8.out)
            have HBGn : Hid (BG at_ t (bs ++ [(b + x, b + x + y)]) (b + x + y)) := Lib.hid (HBG.out.snoc (by omega) (by omega) hle)
            clear p1 p2 hd1 Ho8 Hg8 Hat8 H3s H3o hsz7
            have p2 : w8.cell? ⟨gp, 2, none⟩ = some (.slice B bs.length cb) := by have := HA8.out.1.cell 2; simpa using this
            have pf : w8.frozen? ⟨gp, 2, none⟩ = false := HA8.out.1.frozen 2
            go_wp2
            go_roundw
            case rel => exact ⟨q - 1, _, bs ++ [(b + x, b + x + y)], B8, c8, by go_num, rfl, by simp; omega, HBGn.out, HA8.out.2.more (by omega)⟩
            case measure => simp [intOf]; omega
          · have hd1 : decide (b + x + y ≤ t) = false := decide_eq_false hle
            have HIB8 : Hid (IB w wo g gp at_ t (N + 2 + 8 * ps.length + 2 + 2 * (2 - ((q - 1 : Nat) : Int))) B cb bs w7) := Lib.hid (HIB7.out.more (by omega))
            go_wp2
            go_roundw
            case rel => exact ⟨q - 1, b, bs, B, cb, by go_num, rfl, by omega, HBG.out, HIB8.out⟩
            case measure => simp [intOf]; omega
        · obtain rfl : q = 0 := by omega
          have HOwn : Hid (wr.ownsRow w.heap.size 58 3 (.slice A ps.length c) ps.length (flatV ms)) := Lib.hid (World.ownsRow.kept HPS.out.row HIB.out.only (.inr (fun e => by have := (HPS.out.row.lt g e).1; omega)))
          have HEP : Hid (EP wr g gp w.heap.size #[.int .i64 at_, .int .i64 t, .slice B bs.length cb] (.slice A ps.length c) (.slice A ps.length c) ps.length (flatV ms) (N + 2 + 8 * ps.length + 2 + 2 * (2 - ((0 : Nat) : Int))) wr) := Lib.hid ⟨HIB.out.box, HOwn.out, HIB.out.deck, Chg.refl _ _, fun e => by have h1 := HPS.out.lt gp e; have h2 := HGP.out; omega, .inl rfl⟩
          have HBw : Hid (w.heap.size ≤ wr.heap.size) := Lib.hid (Nat.le_trans HOr.out.size HIB.out.only.size)
          have HPSq : Hid (OwnPs wr w.heap.size wo.heap.size (.slice A ps.length c) ps ms) := Lib.hid (by
            obtain ⟨dcs, hd⟩ := HDr.out.blk
            refine HPS.out.chg (chg_only HIB.out.only) (Nat.le_refl _) (fun x hx hg => ?_) (fun x hx cs hc => ?_)
            · have := (HPS.out.row.lt x hx).1
              omega
            · subst hx
              exact Blk.ne_ hc hd (by decide) rfl)
          clear HPS HOwn
          go_upto_region 15 with (fail)
          refine pres15 (f := at_) (t := t) 15 (by kernel_rfl) rfl rfl rfl rfl rfl rfl rfl rfl rfl rfl rfl rfl rfl (show 78 ≤ 78 from by decide) (fun _ _ _ _ _ h => h) rfl rfl rfl HEP.out hgl HBw.out (by omega) (by omega) (by omega) ?_
          intro z0 z1 z2 z3 z4 z5 z6 z7 z8 z9 z10 A9 c9 u w9 HE9 Hu9
          simp only [Act.put, List.setIfInBounds_toArray, List.set_cons_zero, List.set_cons_succ]
          have hu : 0 ≤ u ∧ u ≤ 960 := by have := Hu9.out; simp at this; omega
          have HPGn : Hid (PG (ps ++ [(at_, t, bs)]) (t + u)) := Lib.hid (by
            have h := HPG.out.snoc (d := dd) (e := u) (bs := bs) (by omega) hdd hu (by rw [← Ht.out]; exact HBG.out.1) (by omega)
            rw [← Ht.out] at h
            exact h)
          have HPSn : Hid (OwnPs w9 w.heap.size w9.heap.size (.slice A9 (ps.length + 1) c9) (ps ++ [(at_, t, bs)]) (ms ++ [(at_, t, .slice B bs.length cb)])) := Lib.hid (by
            obtain ⟨dcs, hd⟩ := HIB.out.deck.blk
            refine HPSq.out.snocS HE9.out.chg (fun x hx cs hc => ?_) HE9.out.own (fun x hx => (HE9.out.own.lt x hx).2) ?_
            · rcases hx with hx | hx
              · subst hx
                exact Blk.ne_ hc hd (by decide) rfl
              · obtain ⟨cs', hc'⟩ := own_blk HPSq.out.row hx
                exact Blk.ne_ hc hc' (by decide) rfl
            · refine own_base (own_chg HIB.out.own HE9.out.chg (fun x hx hs => ?_)) (fun x hx => ?_)
              · obtain ⟨cs, hc⟩ := own_blk HIB.out.own hx
                rcases hs with hs | hs
                · subst hs
                  exact Blk.ne_ hc hd (by decide) rfl
                · obtain ⟨cs', hc'⟩ := own_blk HPSq.out.row hs
                  exact Blk.ne_ hc hc' (by decide) rfl
              · have h1 := (HIB.out.own.lt x hx).1
                have h2 := HOr.out.size
                omega)
          have HO9 : Hid (Only g w w9) := Lib.hid (only_chg (HOr.out.trans HIB.out.only) HE9.out.chg (fun i hi h => by
            rcases h with h | h
            · exact h
            · have := (HPSq.out.row.lt i h).1
              omega))
          have HD9 : Hid (Deck w9 g (N + 2 + 8 * ((ps.length + 1 : Nat) : Int))) := Lib.hid (HE9.out.deck.more (by omega))
          clear HPSq HEP HIB HE9 HPG HBG
          go_wp2
          go_roundw
          case rel => exact ⟨k - 1, t + u, ps ++ [(at_, t, bs)], ms ++ [(at_, t, .slice B bs.length cb)], A9, c9, by go_num, rfl, by simp, by simp; omega, HPGn.out, by rw [List.length_append]; exact HPSn.out, HO9.out, by rw [List.length_append]; exact HD9.out⟩
          case measure => simp [intOf]; omega
    · obtain rfl : k = 0 := by omega
      go_wp2
      exact bodyPost_ret (v := .slice A ps.length c) (by simp [results, Try.results21, go_sem]) rfl ⟨A, c, ps, ms, at_, rfl, by omega, HPG.out, HPS.out, HOr.out, HDr.out.more (by omega)⟩
end Go.Proofs.Ytagkdkkpgcolkaa
