/-
  Chapter 41: Copy of the reference. The memory is that of the given program; no conditions.
-/
import Derived.Test.YtabnlnhnefjebaaStG
import Derived.Test.YtabnlnhnefjebaaRf11
import Derived.Test.YtabnlnhnefjebaaRf5
import Derived.Test.YtabnlnhnefjebaaRf7
namespace Go.Proofs.Ytabnlnhnefjebaa
open Go.RowKit
set_option linter.unusedVariables false
set_option linter.unusedSimpArgs false
/-- the copy of the first k records -/
structure CpL (w : World) (rs : List (List Int)) (sy q k : Nat) (A : Option Addr) (c : Nat) (vs : List Value) (wr : World) : Prop where
  box : Blk wr q 48 #[.slice A k c, .int .i64 sy]
  row : wr.ownsRow w.heap.size 23 1 (.slice A k c) k vs
  recs : RecV wr w.heap.size (rs.take k) vs
  bel : Below w.heap.size w wr
  qge : w.heap.size ≤ q
theorem CpL.drew {w wr : World} {rs : List (List Int)} {sy q k : Nat} {A : Option Addr} {c : Nat} {vs : List Value} (h : CpL w rs sy q k A c vs wr) : CpL w rs sy q k A c vs wr.drew := ⟨h.box, h.row, h.recs, below_drewN h.bel 1, h.qge⟩
/-- what 't.Records = append(t.Records, append([]byte{}, s.Records[i]...))' does -/
theorem cpush_run {w0 w : World} {rs : List (List Int)} {sy q k : Nat} {A : Option Addr} {c : Nat} {vs : List Value} (h : CpL w0 rs sy q k A c vs w) (hk : k < rs.length) (hrl : rs.length ≤ 16384) {A0 : Option Addr} {m c0 : Nat} (hr : Src w 1 A0 m (u8s rs[k])) (hm : rs[k].length = m) (h2 : m ≤ 4096) :
    ∃ A7 c7 w2 A9 c9 w4, (Builtin.append_ #[23, 23] 23 #[.slice (some ⟨w.heap.size, 0, none⟩) 0 0, .slice A0 m c0]).run Try.prog (w.alloc (.cells #[] 5)) = .ok (.slice A7 (0 + m) c7) w2 ∧ Bel w w2 ∧
      (Builtin.append_ #[24, 24] 24 #[.slice A k c, .slice (some ⟨w2.heap.size, 0, none⟩) 1 1]).run Try.prog (w2.alloc (.cells #[.slice A7 (0 + m) c7] 23)) = .ok (.slice A9 (k + 1) c9) w4 ∧
      w4.cell? ⟨q, 0, none⟩ = some (.slice A k c) ∧ w4.frozen? ⟨q, 0, none⟩ = false ∧
      CpL w0 rs sy q (k + 1) A9 c9 (vs ++ [.slice A7 (0 + m) c7]) (w4.setCell ⟨q, 0, none⟩ (.slice A9 (k + 1) c9)) := by
  obtain ⟨i5, hi5, hz50, hz51, hz52⟩ := info_parts row5
  obtain ⟨i23, hi23, hz230, hz231, hz232⟩ := info_parts row23
  have hsz := h.bel.size
  obtain ⟨A7, c7, w2, r1, r2, r3, r4⟩ := append_full (P := Try.prog) (w.alloc (.cells #[] 5)) w.heap.size 23 23 5 i5 _ 1 1 und23 hi5 hz50 hz51 hz52 rfl (by decide) _ 0 _ (emptyLit w 5 1) A0 m c0 (u8s rs[k]) (hr.alloc _) (u8s_one _) (by unfold maxLen; omega) (by omega) (by simp)
  rw [List.nil_append] at r2
  have hb2 : Below w.heap.size w w2 := ((Below.refl w.heap.size w).alloc (Nat.le_refl _) _).trans (Only.below r3 (by simp) (Nat.le_refl _))
  have hne7 : (Value.slice A7 (0 + m) c7).ownBlock = (Value.slice (some ⟨w.heap.size, 0, none⟩) 0 0).ownBlock ∨ (Value.slice A7 (0 + m) c7).ownBlock = some (w.alloc (.cells #[] 5)).heap.size := r4
  have box2 : Blk w2 q 48 #[.slice A k c, .int .i64 sy] := h.box.below hb2 h.box.lt
  have row2 : w2.ownsRow w0.heap.size 23 1 (.slice A k c) k vs := (own_below h.row (Lib.hid hb2)).out
  have recs2 : RecV w2 w0.heap.size (rs.take k) vs := h.recs.below hb2
  have own7 : w2.ownsRow w0.heap.size 5 1 (.slice A7 (0 + m) c7) (0 + m) (u8s rs[k]) := own_base r2 (fun g e => Nat.le_trans hsz (r2.lt g e).1)
  obtain ⟨A9, c9, w4, t1, t2, t3, t4⟩ := append_full (P := Try.prog) (w2.alloc (.cells #[.slice A7 (0 + m) c7] 23)) w0.heap.size 24 24 23 i23 _ 1 24 und24 hi23 hz230 hz231 hz232 rfl (by decide) _ k _ (row2.alloc _) (some ⟨w2.heap.size, 0, none⟩) 1 1 [.slice A7 (0 + m) c7] (one_src w2 _ _) (one_cell _ _ _) (by unfold maxLen; omega) (by omega) (by have := hb2.size; simp; omega)
  have hk4 : Chg (fun g => (Value.slice A k c).ownBlock = some g) w2 w4 := ((Chg.refl _ w2).alloc _).trans (Chg.of_grown (S := fun g => (Value.slice A k c).ownBlock = some g) t3 (fun i _ e => e)) (fun _ _ h => h)
  have hne5 : ∀ g cs, Blk w2 g 5 cs → (Value.slice A k c).ownBlock ≠ some g := fun g cs hc => own_blk_ne row2 hc ne235
  have box4 : Blk w4 q 48 #[.slice A k c, .int .i64 sy] := box2.chg hk4 (own_blk_ne row2 box2 ne2348)
  have recs4 : RecV w4 w0.heap.size (rs.take k) vs := recs2.keep hk4 (fun v hv g e h' => by
    obtain ⟨cs, hcs⟩ := recs2.typ v hv g e
    exact hne5 g cs hcs h')
  have own7' : w4.ownsRow w0.heap.size 5 1 (.slice A7 (0 + m) c7) (0 + m) (u8s rs[k]) := own_chg own7 hk4 (fun g e h' => by
    rcases own7.2 with ⟨h3, _⟩ | ⟨g', cap, cur, h3, _, hh, _⟩
    · rw [h3] at e; simp [Value.ownBlock] at e
    · rw [h3] at e
      simp [Value.ownBlock] at e
      subst e
      exact hne5 g' cur hh h')
  have recsN : RecV w4 w0.heap.size (rs.take (k + 1)) (vs ++ [.slice A7 (0 + m) c7]) := by
    have e : 0 + m = rs[k].length := by omega
    rw [e] at own7' ⊢
    rw [take_snoc rs k hk]
    exact recs4.snoc own7'
  have hap : (Value.slice A9 (k + 1) c9).ownBlock ≠ some q := own_blk_ne t2 box4 ne2348
  have hkq : Chg (fun k => k = q) w4 (w4.setCell ⟨q, 0, none⟩ (.slice A9 (k + 1) c9)) := (Chg.refl (fun k => k = q) w4).setCell (p := ⟨q, 0, none⟩) (fun _ => rfl) _
  refine ⟨A7, c7, w2, A9, c9, w4, r1, hb2, t1, by simpa using box4.cell 0, box4.frozen 0, ⟨by simpa using box4.set_ 0 (.slice A9 (k + 1) c9), own_chg t2 hkq (fun g e h => hap (by rw [e, h])), recsN.keep hkq (fun v hv g e h' => by
      obtain ⟨cs, hcs⟩ := recsN.typ v hv g e
      exact hcs.ne_ box4 ne548 h'), ?_, h.qge⟩⟩
  have hb4 : Below w0.heap.size w0 w4 := (h.bel.trans (hb2.mono hsz)).trans (((Below.refl w0.heap.size w2).alloc (by have := hb2.size; omega) _).trans ((Below.refl w0.heap.size (w2.alloc (.cells #[.slice A7 (0 + m) c7] 23))).grown t3 (by have := hb2.size; simp; omega) (fun g e => (row2.lt g e).1)))
  exact hb4.setCell (p := ⟨q, 0, none⟩) h.qge _
set_option maxHeartbeats 1600000 in
theorem rcopy_region {ops : Array Oper} {Q : Exit → Act → World → Prop} {a : Act} {w0 w : World} (id : Nat) {y0 y1 y2 y3 y4 y5 y6 y7 y8 y9 y10 y11 y12 y14 y16 y17 y18 : TypeId} {q0 q1 q2 q3 q4 q5 q6 q7 q8 q9 q10 q11 q12 q13 q14 q15 q16 q17 q18 : String} {f0 f1 f2 f3 f4 f5 f6 f7 f8 f9 f10 f11 f12 f13 f14 f15 f16 f17 f18 : Array Edge} (hok : regG ops 15 [(0, 2), (1, 2), (2, 2), (6, 2), (7, 2), (10, 2), (3, 2), (4, 0), (8, 2), (9, 0), (11, 2), (12, 0), (5, 1), (13, 1), (14, 1), (15, 1), (16, 1), (17, 1), (18, 1)] = true) (hlt : 15 < ops.size)
    (h0 : ops[0]? = some ⟨(some 20), .move (.tmp 3), y0, q0, f0, none⟩) (h1 : ops[1]? = some ⟨(some 21), .move (.tmp 3), y1, q1, f1, none⟩) (h2 : ops[2]? = some ⟨(some 22), .nilCheck (.tmp 21), y2, q2, f2, none⟩) (h3 : ops[3]? = some ⟨(some 23), .fieldAddr 48 (.tmp 22) 0, y3, q3, f3, none⟩) (h4 : ops[4]? = some ⟨(some 24), .load 24 (.tmp 23), y4, q4, f4, none⟩) (h5 : ops[5]? = some ⟨(some 25), .buildSlice 23 0 #[], y5, q5, f5, none⟩) (h6 : ops[6]? = some ⟨(some 26), .move (.tmp 0), y6, q6, f6, none⟩) (h7 : ops[7]? = some ⟨(some 27), .nilCheck (.tmp 26), y7, q7, f7, none⟩) (h8 : ops[8]? = some ⟨(some 28), .fieldAddr 48 (.tmp 27) 0, y8, q8, f8, none⟩) (h9 : ops[9]? = some ⟨(some 29), .load 24 (.tmp 28), y9, q9, f9, none⟩) (h10 : ops[10]? = some ⟨(some 30), .move (.tmp 4), y10, q10, f10, none⟩) (h11 : ops[11]? = some ⟨(some 31), .indexAddr 24 (.tmp 29) (.tmp 30), y11, q11, f11, none⟩) (h12 : ops[12]? = some ⟨(some 32), .load 23 (.tmp 31), y12, q12, f12, none⟩) (h13 : ops[13]? = some ⟨(some 33), .call { callee := .builtin .append, args := #[.tmp 25, .tmp 32], argTypes := #[23, 23] }, 23, q13, f13, none⟩) (h14 : ops[14]? = some ⟨(some 34), .buildSlice 24 1 #[(0, .tmp 33)], y14, q14, f14, none⟩) (h15 : ops[15]? = some ⟨(some 35), .call { callee := .builtin .append, args := #[.tmp 24, .tmp 34], argTypes := #[24, 24] }, 24, q15, f15, none⟩) (h16 : ops[16]? = some ⟨(some 36), .nilCheck (.tmp 20), y16, q16, f16, none⟩) (h17 : ops[17]? = some ⟨(some 37), .fieldAddr 48 (.tmp 36) 0, y17, q17, f17, none⟩) (h18 : ops[18]? = some ⟨none, .store 24 (.tmp 37) (.tmp 35), y18, q18, f18, none⟩)
    (hsz : 39 ≤ a.tmps.size) (hQ : ∀ c a (d : Nat) v w, Q (.panic c) (a.put (some d) v) w → Q (.panic c) a w) {q q0 k g0 nr c0 m ck : Nat} {Ak : Option Addr} {rs : List (List Int)} {sy : Nat} {A : Option Addr} {c : Nat} {vs : List Value} (e3 : a.eval (.tmp 3) = (.pointer (some ⟨q, 0, none⟩))) (e0 : a.eval (.tmp 0) = (.pointer (some ⟨q0, 0, none⟩))) (e4 : a.eval (.tmp 4) = .int .i64 k)
    (h : CpL w0 rs sy q k A c vs w) (hk : k < nr) (hkr : k < rs.length) (hrl : rs.length ≤ 16384) (hbox : w.cell? ⟨q0, 0, none⟩ = some (.slice (some ⟨g0, 0, none⟩) nr c0)) (hcell : w.cell? ⟨g0, k, none⟩ = some (.slice Ak m ck)) (hr : Src w 1 Ak m (u8s rs[k])) (hm : rs[k].length = m) (hm4 : m ≤ 4096)
    (K : ∀ z0 z1 z2 z3 z4 z5 z6 z7 z8 z9 z10 z11 z12 z13 z14 z15 z16 z17 A9 c9 vs' w', Hid (CpL w0 rs sy q (k + 1) A9 c9 vs' w') → Q .normal ((((((((((((((((((a.put (some 20) z0).put (some 21) z1).put (some 22) z2).put (some 26) z3).put (some 27) z4).put (some 30) z5).put (some 23) z6).put (some 24) z7).put (some 28) z8).put (some 29) z9).put (some 31) z10).put (some 32) z11).put (some 25) z12).put (some 33) z13).put (some 34) z14).put (some 35) z15).put (some 36) z16).put (some 37) z17) w') : (Code.region id ops true).wp Try.prog Q a w := by
  obtain ⟨A7, c7, w2, A9, c9, w4, g7, hb2, g9, dd, df, gC⟩ := cpush_run h.drew hkr hrl (c0 := ck) (show Src w.drew 1 Ak m (u8s rs[k]) from hr) hm hm4
  have hba : Bel w.drew (w.drew.alloc (.cells #[] 5)) := (Below.refl _ _).alloc (Nat.le_refl _) _
  have cq : ∀ W, Bel w.drew W → W.cell? ⟨q, 0, none⟩ = some (.slice A k c) := fun W hW => by
    have := (h.box.drew.below hW h.box.lt).cell 0
    simpa using this
  have c0_ : ∀ W, Bel w.drew W → W.cell? ⟨q0, 0, none⟩ = some (.slice (some ⟨g0, 0, none⟩) nr c0) := fun W hW => (hW.cell (p := ⟨q0, 0, none⟩) (World.block_lt_of_cell? w.drew _ hbox)).trans hbox
  have ck_ : ∀ W, Bel w.drew W → W.cell? ⟨g0, k, none⟩ = some (.slice Ak m ck) := fun W hW => (hW.cell (p := ⟨g0, k, none⟩) (World.block_lt_of_cell? w.drew _ hcell)).trans hcell
  have gst := store24 (A := A9) (n := k + 1) (c := c9) dd df
  refine wp_region_WG (by kernel_rfl) hok hQ ?_
  refine g_free (i := 0) (d := some 20) (v := (.pointer (some ⟨q, 0, none⟩))) h0 (wanted_none rfl) rfl (fun W => x_move rfl e3) ?_
  refine g_free (i := 1) (d := some 21) (v := (.pointer (some ⟨q, 0, none⟩))) h1 (wanted_none rfl) rfl (fun W => x_move rfl (pO (by decide) e3)) ?_
  refine g_free (i := 2) (d := some 22) (v := (.pointer (some ⟨q, 0, none⟩))) h2 (wanted_none rfl) rfl (fun W => x_nil rfl (pS (pZ hsz) (by decide))) ?_
  refine g_free (i := 6) (d := some 26) (v := (.pointer (some ⟨q0, 0, none⟩))) h6 (wanted_none rfl) rfl (fun W => x_move rfl (pO (by decide) (pO (by decide) (pO (by decide) e0)))) ?_
  refine g_free (i := 7) (d := some 27) (v := (.pointer (some ⟨q0, 0, none⟩))) h7 (wanted_none rfl) rfl (fun W => x_nil rfl (pS (pZ (pZ (pZ hsz))) (by decide))) ?_
  refine g_free (i := 10) (d := some 30) (v := (.int .i64 k)) h10 (wanted_none rfl) rfl (fun W => x_move rfl (pO (by decide) (pO (by decide) (pO (by decide) (pO (by decide) (pO (by decide) e4)))))) ?_
  refine g_free (i := 3) (d := some 23) (v := (.pointer (some ⟨q, 0, none⟩))) h3 (wanted_none rfl) rfl (fun W => x_field rfl (pO (by decide) (pO (by decide) (pO (by decide) (pS (pZ (pZ hsz)) (by decide))))) (field48 W q)) ?_
  refine g_take (i := 4) (d := some 24) (v := (.slice A k c)) h4 (wanted_none rfl) rfl (fun W hW => exec_load rfl (pS (pZ (pZ (pZ (pZ (pZ (pZ hsz)))))) (by decide)) (load24 (cq W hW))) ?_
  refine g_free (i := 8) (d := some 28) (v := (.pointer (some ⟨q0, 0, none⟩))) h8 (wanted_none rfl) rfl (fun W => x_field rfl (pO (by decide) (pO (by decide) (pO (by decide) (pS (pZ (pZ (pZ (pZ hsz)))) (by decide))))) (field48 W q0)) ?_
  refine g_take (i := 9) (d := some 29) (v := (.slice (some ⟨g0, 0, none⟩) nr c0)) h9 (wanted_none rfl) rfl (fun W hW => exec_load rfl (pS (pZ (pZ (pZ (pZ (pZ (pZ (pZ (pZ hsz)))))))) (by decide)) (load24 (c0_ W hW))) ?_
  refine g_free (i := 11) (d := some 31) (v := (.pointer (some ⟨g0, k, none⟩))) h11 (wanted_none rfl) rfl (fun W => x_index rfl (pS (pZ (pZ (pZ (pZ (pZ (pZ (pZ (pZ (pZ hsz))))))))) (by decide)) (pO (by decide) (pO (by decide) (pO (by decide) (pO (by decide) (pS (pZ (pZ (pZ (pZ (pZ hsz))))) (by decide)))))) (run_idx24 W g0 nr c0 k hk)) ?_
  refine g_take (i := 12) (d := some 32) (v := (.slice Ak m ck)) h12 (wanted_none rfl) rfl (fun W hW => exec_load rfl (pS (pZ (pZ (pZ (pZ (pZ (pZ (pZ (pZ (pZ (pZ hsz)))))))))) (by decide)) (load23 (ck_ W hW))) ?_
  refine g_val (i := 5) (d := some 25) (v := (.slice (some ⟨w.drew.heap.size, 0, none⟩) 0 0)) (w' := w.drew.alloc (.cells #[] 5)) h5 rfl (wanted_none rfl) rfl (exec_build0 rfl (run_empty5 _)) (hba) ?_
  refine g_val (i := 13) (d := some 33) (v := (.slice A7 (0 + m) c7)) (w' := w2) h13 rfl (wanted_none rfl) rfl (exec_append rfl (pS (pZ (pZ (pZ (pZ (pZ (pZ (pZ (pZ (pZ (pZ (pZ (pZ hsz)))))))))))) (by decide)) (pO (by decide) (pS (pZ (pZ (pZ (pZ (pZ (pZ (pZ (pZ (pZ (pZ (pZ hsz))))))))))) (by decide))) g7) (hb2) ?_
  refine g_val (i := 14) (d := some 34) (v := (.slice (some ⟨w2.heap.size, 0, none⟩) 1 1)) (w' := w2.alloc (.cells #[.slice A7 (0 + m) c7] 23)) h14 rfl (wanted_none rfl) rfl (exec_buildSlice rfl (pS (pZ (pZ (pZ (pZ (pZ (pZ (pZ (pZ (pZ (pZ (pZ (pZ (pZ hsz))))))))))))) (by decide)) (run_one24 _ _ _ _)) (Bel.trans hb2 ((Below.refl _ _).alloc (Nat.le_refl _) _)) ?_
  refine g_late (d := some 35) (v := (.slice A9 (k + 1) c9)) (w' := w4) h15 (wanted_none rfl) rfl (exec_append rfl (pO (by decide) (pO (by decide) (pO (by decide) (pO (by decide) (pO (by decide) (pO (by decide) (pO (by decide) (pS (pZ (pZ (pZ (pZ (pZ (pZ (pZ hsz))))))) (by decide))))))))) (pS (pZ (pZ (pZ (pZ (pZ (pZ (pZ (pZ (pZ (pZ (pZ (pZ (pZ (pZ hsz)))))))))))))) (by decide)) g9) hlt ?_
  refine f_one (i := 16) (d := some 36) (v := (.pointer (some ⟨q, 0, none⟩))) h16 (wanted_none rfl) rfl (x_nil rfl (pO (by decide) (pO (by decide) (pO (by decide) (pO (by decide) (pO (by decide) (pO (by decide) (pO (by decide) (pO (by decide) (pO (by decide) (pO (by decide) (pO (by decide) (pO (by decide) (pO (by decide) (pO (by decide) (pO (by decide) (pS hsz (by decide)))))))))))))))))) ?_
  refine f_one (i := 17) (d := some 37) (v := (.pointer (some ⟨q, 0, none⟩))) h17 (wanted_none rfl) rfl (x_field rfl (pS (pZ (pZ (pZ (pZ (pZ (pZ (pZ (pZ (pZ (pZ (pZ (pZ (pZ (pZ (pZ (pZ hsz)))))))))))))))) (by decide)) (field48 _ q)) ?_
  refine f_unit (i := 18) (w' := w4.setCell ⟨q, 0, none⟩ (.slice A9 (k + 1) c9)) h18 (wanted_none rfl) rfl (exec_store rfl (pS (pZ (pZ (pZ (pZ (pZ (pZ (pZ (pZ (pZ (pZ (pZ (pZ (pZ (pZ (pZ (pZ (pZ hsz))))))))))))))))) (by decide)) (pO (by decide) (pO (by decide) (pS (pZ (pZ (pZ (pZ (pZ (pZ (pZ (pZ (pZ (pZ (pZ (pZ (pZ (pZ (pZ hsz))))))))))))))) (by decide)))) gst) ?_
  refine f_done ?_
  exact K _ _ _ _ _ _ _ _ _ _ _ _ _ _ _ _ _ _ A9 c9 _ _ (Lib.hid gC)
def RCopyPost (rs : List (List Int)) (sy : Nat) (w : World) (e : Ending) (w' : World) : Prop := ∃ q own, e = .returned (.pointer (some ⟨q, 0, none⟩)) ∧ Rf w' q own rs sy ∧ Below w.heap.size w w' ∧ w.heap.size ≤ q ∧ ∀ g, own = some g → w.heap.size ≤ g
theorem rcopy_post {w wr : World} {q0 : Nat} {own0 : Option Nat} {rs : List (List Int)} {sy q : Nat} {A0 : Option Addr} {c0 : Nat} {vs0 : List Value} {A : Option Addr} {c n : Nat} {vs : List Value} (h0 : Hid (RfV w q0 own0 rs sy A0 c0 vs0)) (hn : Hid (rs.length = n)) (h : Hid (CpL w rs sy q n A c vs wr)) : RCopyPost rs sy w (.returned (.pointer (some ⟨q, 0, none⟩))) wr := by
  have e := hn.out
  subst e
  have h := h.out
  have hre := h.recs
  rw [List.take_length] at hre
  exact ⟨q, _, rfl, ⟨A, c, vs, rfl, h.box, own_base h.row (fun _ _ => Nat.zero_le _), hre.base (Nat.zero_le _), h0.out.ok, h0.out.len, h0.out.syn⟩, h.bel, h.qge, fun g e => (h.row.lt g e).1⟩
theorem cpl_start {w : World} {rs : List (List Int)} {sy q : Nat} (hq : Hid (q = w.heap.size)) : CpL w rs sy q 0 none 0 [] (w.alloc (.cells #[.slice none 0 0, .int .i64 sy] 48)) := by
  rw [hq.out]
  exact ⟨Blk.new _ _ _, World.ownsRow_nil _ _ _ _, RecV.nil _ _, (Below.refl _ _).alloc (Nat.le_refl _) _, Nat.le_refl _⟩
set_option maxRecDepth 100000 in
set_option maxHeartbeats 1600000 in
theorem rcopy_any (q0 : Nat) (own0 : Option Nat) (rs : List (List Int)) (sy : Nat) (w : World) (h : Rf w q0 own0 rs sy) : Calls Try.prog 36 #[(.pointer (some ⟨q0, 0, none⟩))] w (RCopyPost rs sy w) := by
  obtain ⟨A0, c0, vs0, h⟩ := h
  have H0 := Lib.hid h
  have hrl := h.rlen
  obtain ⟨n, Hn⟩ : ∃ n, Hid (rs.length = n) := ⟨_, Lib.hid rfl⟩
  have x0 : w.cell? ⟨q0, 0, none⟩ = some (.slice A0 n c0) := by have := h.box.cell 0; rw [Hn.out] at this; simpa using this
  have x1 : w.cell? ⟨q0, 1, none⟩ = some (.int .i64 sy) := by have := h.box.cell 1; simpa using this
  have HX0 := Lib.hid x0
  have HQ0 := Lib.hid h.box.lt
  obtain ⟨q, Hq⟩ : ∃ q, Hid (q = w.heap.size) := ⟨_, Lib.hid rfl⟩
  have hn : n ≤ 16384 := by rw [← Hn.out]; exact hrl
  clear h hrl
  go_enter Try.func36, Try.ntmps36
  go_wp2
  rw [← Hq.out]
  clear x0 x1
  go_loopw [4] (fun i wr => ∃ (k : Nat) (A : Option Addr) (c : Nat) (vs : List Value), k ≤ n ∧ i = .int .i64 k ∧ CpL w rs sy q k A c vs wr) (fun i _ => n - (intOf i).toNat)
  case atStart => exact ⟨0, none, 0, [], Nat.zero_le _, rfl, cpl_start Hq⟩
  case round =>
    obtain ⟨k, A, c, vs, hk, rfl, hL⟩ := hrel
    have HL := Lib.hid hL
    have y0 : wr.cell? ⟨q0, 0, none⟩ = some (.slice A0 n c0) := by rw [hL.bel.cell (p := ⟨q0, 0, none⟩) HQ0.out]; exact HX0.out
    clear hL
    by_cases hlt : k < n
    · have hkr : k < rs.length := by rw [Hn.out]; exact hlt
      have hrow : w.ownsRow 0 23 1 (.slice A0 rs.length c0) rs.length vs0 := H0.out.row
      obtain ⟨g0, rfl, hg0⟩ := recs_addr hrow (by omega)
      obtain ⟨Ak, ck, hc1, hc2⟩ := recs_cell hrow H0.out.recs rfl hkr
      have HC1 : Hid (wr.cell? ⟨g0, k, none⟩ = some (.slice Ak rs[k].length ck)) := Lib.hid (by rw [HL.out.bel.cell (p := ⟨g0, k, none⟩) hg0]; exact hc1)
      have HSr : Hid (Src wr 1 Ak rs[k].length (u8s rs[k])) := Lib.hid ((rdB_of_own (Lib.hid rfl) (own_below hc2 (Lib.hid HL.out.bel)).out).src)
      have HKr := Lib.hid hkr
      have HM4 : Hid (rs[k].length ≤ 4096) := Lib.hid (H0.out.ok _ (List.getElem_mem hkr)).2.2
      have HY0 := Lib.hid y0
      clear hrow hc1 hc2 hg0
      go_upto_region 5 with (fail)
      refine rcopy_region 5 (by kernel_rfl) (by decide) rfl rfl rfl rfl rfl rfl rfl rfl rfl rfl rfl rfl rfl rfl rfl rfl rfl rfl rfl (show 39 ≤ 39 from by decide) (fun _ _ _ _ _ h => h) rfl rfl rfl HL.out hlt HKr.out (by rw [Hn.out]; exact hn) HY0.out HC1.out HSr.out rfl HM4.out ?_
      intro z0 z1 z2 z3 z4 z5 z6 z7 z8 z9 z10 z11 z12 z13 z14 z15 z16 z17 A9 c9 vs' w' HN
      simp only [Act.put, List.setIfInBounds_toArray, List.set_cons_zero, List.set_cons_succ]
      clear HC1 HSr HL y0 HY0 HM4 HKr hkr
      go_wp2
      go_roundw
      case rel => exact ⟨k + 1, A9, c9, vs', by omega, by go_num, HN.out⟩
      case measure => simp [intOf]; omega
    · obtain rfl : k = n := by omega
      go_wp2
      go_ret
      exact rcopy_post H0 Hn HL
end Go.Proofs.Ytabnlnhnefjebaa
