/-
  Chapter 40: the walk of the law RunPaid.
-/
import Derived.Test.YtolkdidcmingkaaDoorRun12
import Derived.Test.YtolkdidcmingkaaDoorOpen
namespace Go.Proofs.YtolkdidcmingkaaDoor
open Go.RowKit
set_option linter.unusedVariables false
set_option linter.unusedSimpArgs false

theorem er_ok {r : RP} {x : CV} (h : erP r x = 0) : mayB r.s x.k = true ∧ (x.k = 3 ∨ x.k = 4 → x.c = r.c) ∧ (stP r x).s = nxt x.k ∧ (stP r x).c = (if x.k = 2 then x.c else if x.k = 6 then C0 else r.c) := by
  have h' : stE r.s r.E r.c x.k x.F x.c = 0 := h
  refine ⟨?_, ?_, ?_, ?_⟩
  · unfold stE at h'
    split at h'
    · split at h'
      · assumption
      · omega
    · omega
  · intro hk
    unfold stE at h'
    split at h'
    · split at h'
      · rw [if_neg (by omega), if_neg (by omega)] at h'
        first | (rw [if_pos hk] at h') | skip
        split at h'
        · exact (eqC_iff _ _).1 (by assumption)
        · omega
      · omega
    · omega
  · show stS _ _ _ _ _ _ = _; unfold stS; rw [if_pos h']
  · show stC _ _ _ _ _ _ = _; unfold stC; rw [if_pos h']
/-- what the law keeps of a run -/
def Inv (r : RP) (seen : Int) (last : T3) : Prop := (r.s = 1 ∧ seen = 0) ∨ (r.s = 2 ∧ seen = 1) ∨ (r.s = 3 ∧ seen = 2 ∧ last = r.c) ∨ ((r.s = 4 ∨ r.s = 5) ∧ seen = 3 ∧ last = r.c) ∨ (r.s = 6 ∧ seen = 3)
theorem may_cases {s k : Int} (h : mayB s k = true) : (k = 1 ∧ (s = 1 ∨ s = 2)) ∨ (k = 2 ∧ (s = 2 ∨ s = 3)) ∨ (k = 6 ∧ (s = 2 ∨ s = 3)) ∨ (k = 3 ∧ s = 3) ∨ (k = 4 ∧ s = 4) ∨ (k = 5 ∧ (s = 4 ∨ s = 5)) := by
  unfold mayB at h
  simp at h
  omega
/-- what the law does with a command -/
def Act2 (k seen : Int) (last xc : T3) (seen' : Int) (last' : T3) : Prop := (k = 1 ∧ seen' = 1 ∧ last' = last) ∨ (k = 2 ∧ seen' = 2 ∧ last' = xc) ∨ (k = 6 ∧ seen' = 0 ∧ last' = last) ∨ (k = 3 ∧ seen' = 3 ∧ last' = last) ∨ (k = 4 ∧ seen' = seen ∧ last' = last) ∨ (k = 5 ∧ seen' = seen ∧ last' = last)
theorem inv_act {r : RP} {x : CV} {seen seen' : Int} {last last' : T3} (h : Inv r seen last) (he : erP r x = 0) (ha : Act2 x.k seen last x.c seen' last') : Inv (stP r x) seen' last' := by
  obtain ⟨k1, k2, k3, k4⟩ := er_ok he
  have hm := may_cases k1
  unfold Inv at h ⊢
  rw [k3, k4]
  unfold nxt
  rcases ha with ⟨hk, h1, h2⟩ | ⟨hk, h1, h2⟩ | ⟨hk, h1, h2⟩ | ⟨hk, h1, h2⟩ | ⟨hk, h1, h2⟩ | ⟨hk, h1, h2⟩
  · rw [hk]; simp; omega
  · rw [hk]; simp [h2]; omega
  · rw [hk]; simp; omega
  · rw [hk]; simp
    rcases h with h | h | ⟨a, b, c⟩ | ⟨a, b, c⟩ | h
    · omega
    · omega
    · exact ⟨h1, by rw [h2, c]⟩
    · omega
    · omega
  · rw [hk]; simp
    rcases h with h | h | ⟨a, b, c⟩ | ⟨a, b, c⟩ | h
    · omega
    · omega
    · omega
    · exact ⟨by omega, by rw [h2, c]⟩
    · omega
  · rw [hk]; simp; omega
/-- the tests of the law hold -/
theorem inv_tests {r : RP} {x : CV} {seen : Int} {last : T3} (h : Inv r seen last) (he : erP r x = 0) : (x.k = 1 ∨ x.k = 2 ∧ 1 ≤ seen ∨ x.k = 6 ∨ x.k = 3 ∧ seen = 2 ∧ x.c = last ∨ x.k = 4 ∧ seen = 3 ∧ x.c = last ∧ (stP r x).s = 5 ∨ x.k = 5) := by
  obtain ⟨k1, k2, k3, k4⟩ := er_ok he
  have hm := may_cases k1
  unfold Inv at h
  rcases hm with ⟨hk, hs⟩ | ⟨hk, hs⟩ | ⟨hk, hs⟩ | ⟨hk, hs⟩ | ⟨hk, hs⟩ | ⟨hk, hs⟩
  · exact .inl hk
  · exact .inr (.inl ⟨hk, by omega⟩)
  · exact .inr (.inr (.inl hk))
  · refine .inr (.inr (.inr (.inl ⟨hk, by omega, ?_⟩)))
    rcases h with h | h | ⟨a, b, c⟩ | ⟨a, b, c⟩ | h
    · omega
    · omega
    · rw [k2 (by omega), c]
    · omega
    · omega
  · refine .inr (.inr (.inr (.inr (.inl ⟨hk, by omega, ?_, by rw [k3, hk]; rfl⟩))))
    rcases h with h | h | ⟨a, b, c⟩ | ⟨a, b, c⟩ | h
    · omega
    · omega
    · omega
    · rw [k2 (by omega), c]
    · omega
  · exact .inr (.inr (.inr (.inr (.inr hk))))

/-- what stays: the last control totals -/
def XL (lb : Nat) (last : T3) (W : World) : Prop := Blk W lb 25 #[.int .i64 last.1, .int .i64 last.2.1, .int .i64 last.2.2]
theorem XL.cell {lb : Nat} {last : T3} {W : World} (h : XL lb last W) (i : Nat) : W.cell? ⟨lb, i, none⟩ = (#[.int .i64 last.1, .int .i64 last.2.1, .int .i64 last.2.2] : Array Value)[i]? := Blk.cell h i
theorem XL.frozen {lb : Nat} {last : T3} {W : World} (h : XL lb last W) (i : Nat) : W.frozen? ⟨lb, i, none⟩ = false := Blk.frozen h i
theorem xl_stable {lb rb : Nat} {last : T3} (h : rb < lb) : Stable (XL lb last) rb lb :=
  ⟨fun W W' hx hb => Blk.below hx hb (Blk.lt hx), fun g W W' hg hx ho => Blk.grown hx ho (by intro e; injection e; omega)⟩
theorem put3_only (W : World) (lb : Nat) (a b c : Value) : Only lb W (((W.setCell ⟨lb, 0, none⟩ a).setCell ⟨lb, 1, none⟩ b).setCell ⟨lb, 2, none⟩ c) :=
  (((Only.refl lb W).setCell (p := ⟨lb, 0, none⟩) (.inl rfl) _).setCell (p := ⟨lb, 1, none⟩) (.inl rfl) _).setCell (p := ⟨lb, 2, none⟩) (.inl rfl) _
theorem ls_last {lb rb n B : Nat} {last x : T3} {w W : World} {r : RP} {A Ad : Option Addr} {L : List CV} (h : LS (XL lb last) lb w rb r A n B Ad L W) (hlb : rb < lb) (hA : ∀ b off, A = some ⟨b, off, none⟩ → lb < b) :
    LS (XL lb x) lb w rb r A n B Ad L (((W.setCell ⟨lb, 0, none⟩ (.int .i64 x.1)).setCell ⟨lb, 1, none⟩ (.int .i64 x.2.1)).setCell ⟨lb, 2, none⟩ (.int .i64 x.2.2)) := by
  have ho := put3_only W lb (.int .i64 x.1) (.int .i64 x.2.1) (.int .i64 x.2.2)
  refine ⟨h.st.far ho hlb (fun _ b off e => by have := hA b off e; omega), ?_, Nat.lt_of_lt_of_le h.hlt ho.size, h.hle⟩
  have hx : Blk W lb 25 #[.int .i64 last.1, .int .i64 last.2.1, .int .i64 last.2.2] := h.ex
  have := ((hx.set_ 0 (.int .i64 x.1)).set_ 1 (.int .i64 x.2.1)).set_ 2 (.int .i64 x.2.2)
  unfold XL
  simpa using this

set_option maxHeartbeats 6400000 in
set_option maxRecDepth 100000 in
theorem runPaid_walk (A0 : Option Addr) (c0 : Nat) (l0 : List Int) (w : World) (hT : Tab w) (hr0 : RdI w w.heap.size A0 l0) (hl0 : l0.length ≤ 9223372036854775807) :
    Calls Tryd.prog 5 #[.slice A0 l0.length c0] w (RetB true w) := by
  have HBR := Lib.hid (law_cmds A0 c0 16 l0 w (by omega) hr0 hl0 hT)
  clear hr0
  go_enter Tryd.func5, Tryd.ntmps5
  go_wp2_with fail
  refine HBR.out.mono ?_
  rintro e w1 ⟨rfl, hbr⟩
  have HBR := Lib.hid hbr
  clear hbr
  go_wp2_with fail
  refine HBR.out.mono ?_
  rintro e w2 ⟨Ad, cd, L, rfl, hL, hc, hb2, hT2⟩
  have hw2 := hb2.size
  obtain ⟨B, hBe⟩ : ∃ B, B = w2.heap.size := ⟨_, rfl⟩
  obtain ⟨rb, hrb⟩ : ∃ rb, rb = w2.heap.size := ⟨_, rfl⟩
  obtain ⟨lb, hlbe⟩ : ∃ lb, lb = w2.heap.size + 1 := ⟨_, rfl⟩
  have HLS0 : Hid (LS (XL lb (0, 0, 0)) lb w rb draft none 0 B Ad L ((w2.alloc (.cells #[.int .i64 1, .slice none 0 0, .int .i64 0, .int .i64 0, .int .i64 0] 27)).alloc (.cells #[.int .i64 0, .int .i64 0, .int .i64 0] 25))) := Lib.hid (by
    have hb : Below w2.heap.size w2 ((w2.alloc (.cells #[.int .i64 1, .slice none 0 0, .int .i64 0, .int .i64 0, .int .i64 0] 27)).alloc (.cells #[.int .i64 0, .int .i64 0, .int .i64 0] 25)) := ((Below.refl _ _).alloc (Nat.le_refl _) _).alloc (by simp) _
    refine ⟨⟨hb2.trans (hb.mono hb2.size), ?_, by omega, Rd.none_, (fun b off e => by cases e), ?_, by omega, by simp [draft], hT2.calc_ hb⟩, ?_, by simp; omega, by omega⟩
    · rw [hrb]; exact (Blk.new _ _ _).alloc _
    · rw [hBe]; exact hc.below hb
    · rw [hlbe]; exact Blk.new' (by simp))
  have hlb : rb < lb := by omega
  clear hc hb2 hT2 HBR hT hBe
  go_wp2
  rw [← hlbe, ← hrb]
  clear hrb hlbe
  go_loopw [6, 7, 8, 9] (fun sv i _ _ wr => ∃ (j : Nat) (A : Option Addr) (n : Nat) (r : RP) (last : T3) (seen : Int), j ≤ L.length ∧ i = .int .i64 j ∧ sv = .int .i64 seen ∧ Inv r seen last ∧ LS (XL lb last) lb w rb r A n B Ad L wr ∧ ∀ b off, A = some ⟨b, off, none⟩ → lb < b) (fun _ i _ _ _ => L.length - (intOf i).toNat)
  case atStart => exact ⟨0, none, 0, draft, (0, 0, 0), 0, Nat.zero_le _, rfl, rfl, .inl ⟨rfl, rfl⟩, HLS0.out, (fun b off e => by cases e)⟩
  case round =>
    obtain ⟨j, A, n, r, last, seen, hj, rfl, rfl, hinv, hls, hAl⟩ := hrel
    obtain ⟨X, hXe⟩ : ∃ X, X = XL lb last := ⟨_, rfl⟩
    have HX : Hid (Stable X rb lb) := Lib.hid (by rw [hXe]; exact xl_stable hlb)
    rw [← hXe] at hls
    have HXE := Lib.hid hXe
    have HINV := Lib.hid hinv
    have HLS := Lib.hid hls
    have HAL := Lib.hid hAl
    clear hinv hls hAl hXe HLS0
    by_cases hlt : j < L.length
    · obtain ⟨b, off, rfl, hbb, hcell⟩ := HLS.out.st.cmds.all (by omega)
      obtain ⟨e0, e1, e2, e3, e4⟩ := hcell j hlt
      clear hcell
      have x0 := HLS.out.st.box.cell 0
      have x1 := HLS.out.st.box.cell 1
      have x2 := HLS.out.st.box.cell 2
      have x3 := HLS.out.st.box.cell 3
      have x4 := HLS.out.st.box.cell 4
      simp [rpV] at x0 x1 x2 x3 x4
      have HSTEP : Hid (∀ W, LS X lb w rb (r) A n B (some ⟨b, off, none⟩) L W → Calls Tryd.prog 10 #[.agg #[.int .i64 (r).s, .slice A (r).E.length n, .int .i64 (r).c.1, .int .i64 (r).c.2.1, .int .i64 (r).c.2.2], .agg #[.int .i64 (cAt L j).k, .slice (cAt L j).A (cAt L j).F.length (cAt L j).n, .int .i64 (cAt L j).c.1, .int .i64 (cAt L j).c.2.1, .int .i64 (cAt L j).c.2.2]] W (StPost X lb w rb (r) A n B (some ⟨b, off, none⟩) L (cAt L j) W)) := Lib.hid (fun W h => h.step_ HX.out j hlt)
      have hA1 : Hid ((r).E ≠ [] → ∀ b off, A = some ⟨b, off, none⟩ → b < wr.heap.size) := Lib.hid (rd_lt HLS.out.st.rd)
      have hrbw := HLS.out.st.box.lt
      have hhiw := HLS.out.hlt
      have hbw : b < wr.heap.size := by have := HLS.out.st.blt; omega
      have hn1 : ¬ wr.heap.size = rb := by omega
      have hn2 : ¬ rb = wr.heap.size := by omega
      have hn3 : ¬ wr.heap.size = b := by omega
      have hn4 : ¬ b = wr.heap.size := by omega
      go_upto_region 8 with (fail)
      go_cut [8, 9] (fun a9 a10 wx => NX X lb w rb r A n B (some ⟨b, off, none⟩) L (cAt L j) a9 a10 wx)
      case first =>
        have hk1 : (0 : Int) ≤ (j : Int) := by omega
        have hk2 : (j : Int) < (L.length : Int) := by omega
        go_region_held3 (fun W => W.cell? ⟨rb, 0, none⟩ = some (.int .i64 r.s) ∧ W.cell? ⟨rb, 1, none⟩ = some (.slice A r.E.length n) ∧ W.cell? ⟨rb, 2, none⟩ = some (.int .i64 r.c.1) ∧ W.cell? ⟨rb, 3, none⟩ = some (.int .i64 r.c.2.1) ∧ W.cell? ⟨rb, 4, none⟩ = some (.int .i64 r.c.2.2) ∧ W.cell? ⟨b, off + j * 5, none⟩ = some (.int .i64 (cAt L j).k) ∧ W.cell? ⟨b, off + j * 5 + 1, none⟩ = some (.slice (cAt L j).A (cAt L j).F.length (cAt L j).n) ∧ W.cell? ⟨b, off + j * 5 + 2, none⟩ = some (.int .i64 (cAt L j).c.1) ∧ W.cell? ⟨b, off + j * 5 + 3, none⟩ = some (.int .i64 (cAt L j).c.2.1) ∧ W.cell? ⟨b, off + j * 5 + 4, none⟩ = some (.int .i64 (cAt L j).c.2.2)) (go_keep)
          (first | (go_at_call 10; refine (HSTEP.out _ ?_).mono ?_; (repeat (first | exact HLS.out | apply LS.alloc HX.out | apply LS.drew HX.out)); rintro e w6 ⟨A6, n6, rfl, hb6, hr6, hf6, hl6, hls6⟩; have HLS6 := Lib.hid hls6; have HR6 := Lib.hid hr6; have HF6 := Lib.hid hf6; have HB6 := Lib.hid hb6; have y0 := hls6.st.box.cell 0; have y1 := hls6.st.box.cell 1; have y2 := hls6.st.box.cell 2; have y3 := hls6.st.box.cell 3; have y4 := hls6.st.box.cell 4; (simp [rpV] at y0 y1 y2 y3 y4); have k0 := (bcl (b := b) (o := off + j * 5) hb6 (by first | exact hbw | (simp; omega))); have k1 := (bcl (b := b) (o := off + j * 5 + 1) hb6 (by first | exact hbw | (simp; omega))); have k2 := (bcl (b := b) (o := off + j * 5 + 2) hb6 (by first | exact hbw | (simp; omega))); have k3 := (bcl (b := b) (o := off + j * 5 + 3) hb6 (by first | exact hbw | (simp; omega))); have k4 := (bcl (b := b) (o := off + j * 5 + 4) hb6 (by first | exact hbw | (simp; omega))); (simp [e0, e1, e2, e3, e4, hbw] at k0 k1 k2 k3 k4); (first | (with_reducible have HMB := bx hb6) | (with_reducible have HMB := bx' hb6) | skip); (try (have m0 : w6.cell? ⟨wr.heap.size, 0, none⟩ = some (.int .i64 0) := HMB.cell 0; have m1 : w6.cell? ⟨wr.heap.size, 1, none⟩ = some (.slice none 0 0) := HMB.cell 1; have m2 : w6.cell? ⟨wr.heap.size, 2, none⟩ = some (.int .i64 0) := HMB.cell 2; have m3 : w6.cell? ⟨wr.heap.size, 3, none⟩ = some (.int .i64 0) := HMB.cell 3; have m4 : w6.cell? ⟨wr.heap.size, 4, none⟩ = some (.int .i64 0) := HMB.cell 4; have mf0 : w6.frozen? ⟨wr.heap.size, 0, none⟩ = false := HMB.frozen 0; have mf1 : w6.frozen? ⟨wr.heap.size, 1, none⟩ = false := HMB.frozen 1; have mf2 : w6.frozen? ⟨wr.heap.size, 2, none⟩ = false := HMB.frozen 2; have mf3 : w6.frozen? ⟨wr.heap.size, 3, none⟩ = false := HMB.frozen 3; have mf4 : w6.frozen? ⟨wr.heap.size, 4, none⟩ = false := HMB.frozen 4; have HMH := Lib.hid HMB; clear HMB)); clear hb6 hr6 hf6 hls6))
        all_goals go_wp2_with fail
        all_goals go_meet
        · exact nx_new HX.out HLS6.out HR6.out HF6.out (by simpa using hhiw) hl6 rfl
        · exact nx_old HX.out HLS6.out (fun hE b off e => by have := hA1.out hE b off e; omega) HR6.out HF6.out (by simp; omega) (by simp) hl6 HMH.out hhiw
      case rest =>
        obtain ⟨m, A', n', rfl, rfl, hbm, hmi, hr', hne', hl', hls'⟩ := hcut
        have HLS := Lib.hid hls'
        have HM := Lib.hid hbm
        have HR' := Lib.hid hr'
        have HNE := Lib.hid hne'
        have hrbm : rb < wc.heap.size := hls'.st.box.lt
        clear hbm hr' hne' hls' x0 x1 x2 x3 x4 e0 e1 e2 e3 e4 HSTEP
        have hrm : ¬ rb = m := by have := HLS.out.hle; omega
        have hmr : ¬ m = rb := by have := HLS.out.hle; omega
        obtain ⟨b1, off1, hbo, hbb1, hcell1⟩ := HLS.out.st.cmds.all (by omega)
        injection hbo with hbo
        injection hbo with hbo1 hbo2
        subst hbo1 hbo2
        obtain ⟨e0, e1, e2, e3, e4⟩ := hcell1 j hlt
        clear hcell1
        by_cases he : erP r (cAt L j) = 0
        rotate_left
        · have t0 : (erP r (cAt L j) != 0) = true := by simpa using he
          clear he e0 e1 e2 e3 e4
          generalize erP r (cAt L j) = er at *
          generalize stP r (cAt L j) = r' at *
          go_wp2
          go_roundw
          case rel => exact ⟨j + 1, A, n, r, last, seen, by omega, by go_num, rfl, HINV.out, by rw [← HXE.out]; exact HLS.out, HAL.out⟩
          case measure => simp [intOf]; omega
        · have HACT : Hid (∀ seen' last', Act2 (cAt L j).k seen last (cAt L j).c seen' last' → Inv (stP r (cAt L j)) seen' last') := Lib.hid (fun seen' last' h => inv_act HINV.out he h)
          have htest := inv_tests HINV.out he
          have hxl : XL lb last wc := by have := HLS.out.ex; rwa [HXE.out] at this
          have HNEX : Hid (∀ last', LS (XL lb last') lb w rb r A n B (some ⟨b, off, none⟩) L wc → LS (XL lb last') lb w rb (stP r (cAt L j)) A' n' B (some ⟨b, off, none⟩) L (put5 wc rb (.int .i64 (stP r (cAt L j)).s) (.slice A' (stP r (cAt L j)).E.length n') (.int .i64 (stP r (cAt L j)).c.1) (.int .i64 (stP r (cAt L j)).c.2.1) (.int .i64 (stP r (cAt L j)).c.2.2))) := Lib.hid (fun last' h => h.next (xl_stable hlb) HR'.out (fun b off e => by have := HNE.out b off e; omega) hl')
          have HLS1 : Hid (LS (XL lb last) lb w rb r A n B (some ⟨b, off, none⟩) L wc) := Lib.hid (by have := HLS.out; rwa [HXE.out] at this)
          rw [he]
          have m0 := HM.out.cell 0
          have m1 := HM.out.cell 1
          have m2 := HM.out.cell 2
          have m3 := HM.out.cell 3
          have m4 := HM.out.cell 4
          have x0 := HLS.out.st.box.cell 0
          have x1 := HLS.out.st.box.cell 1
          have x2 := HLS.out.st.box.cell 2
          have x3 := HLS.out.st.box.cell 3
          have x4 := HLS.out.st.box.cell 4
          have f0 := HLS.out.st.box.frozen 0
          have f1 := HLS.out.st.box.frozen 1
          have f2 := HLS.out.st.box.frozen 2
          have f3 := HLS.out.st.box.frozen 3
          have f4 := HLS.out.st.box.frozen 4
          have l0 := hxl.cell 0
          have l1 := hxl.cell 1
          have l2 := hxl.cell 2
          have lf0 := hxl.frozen 0
          have lf1 := hxl.frozen 1
          have lf2 := hxl.frozen 2
          simp [rpV] at m0 m1 m2 m3 m4 x0 x1 x2 x3 x4 l0 l1 l2
          have hlm : ¬ lb = m := by omega
          have hml : ¬ m = lb := by omega
          have hrl : ¬ rb = lb := by omega
          have hlr : ¬ lb = rb := by omega
          have hbl1 : ¬ b = lb := by have := HLS.out.st.bl; omega
          have hbl2 : ¬ lb = b := by omega
          have hbl3 : ¬ b = rb := by have := HLS.out.st.bl; omega
          have hbl4 : ¬ rb = b := by omega
          have HALN : Hid (∀ b off, A' = some ⟨b, off, none⟩ → lb < b) := HNE
          have HSL : Hid (LS (XL lb (cAt L j).c) lb w rb r A n B (some ⟨b, off, none⟩) L (((wc.setCell ⟨lb, 0, none⟩ (.int .i64 (cAt L j).c.1)).setCell ⟨lb, 1, none⟩ (.int .i64 (cAt L j).c.2.1)).setCell ⟨lb, 2, none⟩ (.int .i64 (cAt L j).c.2.2))) := Lib.hid (ls_last HLS1.out hlb HAL.out)
          have HR2 : Hid (RdI (((wc.setCell ⟨lb, 0, none⟩ (.int .i64 (cAt L j).c.1)).setCell ⟨lb, 1, none⟩ (.int .i64 (cAt L j).c.2.1)).setCell ⟨lb, 2, none⟩ (.int .i64 (cAt L j).c.2.2)) (((wc.setCell ⟨lb, 0, none⟩ (.int .i64 (cAt L j).c.1)).setCell ⟨lb, 1, none⟩ (.int .i64 (cAt L j).c.2.1)).setCell ⟨lb, 2, none⟩ (.int .i64 (cAt L j).c.2.2)).heap.size A' (stP r (cAt L j)).E) := Lib.hid (rd_only HR'.out (put3_only wc lb _ _ _) (fun b off e => by have := HNE.out b off e; omega))
          have HLN2 := Lib.hid (HSL.out.next (n' := n') (xl_stable hlb) HR2.out (fun b off e => by have := HNE.out b off e; omega) hl')
          have HLN1 := Lib.hid (HNEX.out last HLS1.out)
          have HLN1D : Hid (∀ q, LS (XL lb last) lb w rb (stP r (cAt L j)) A' n' B (some ⟨b, off, none⟩) L (put5 (wc.drewN q) rb (.int .i64 (stP r (cAt L j)).s) (.slice A' (stP r (cAt L j)).E.length n') (.int .i64 (stP r (cAt L j)).c.1) (.int .i64 (stP r (cAt L j)).c.2.1) (.int .i64 (stP r (cAt L j)).c.2.2))) := Lib.hid (fun q => (HLS1.out.calc_ (xl_stable hlb) (below_drewN (Below.refl _ _) q)).next (xl_stable hlb) (HR'.out.below (below_drewN (Below.refl _ _) q)) (fun b off e => by have := HNE.out b off e; omega) hl')
          clear he hxl HNEX HSL HR2 HINV
          generalize stP r (cAt L j) = r' at *
          rcases htest with hk | ⟨hk, hse⟩ | hk | ⟨hk, hse, hxc⟩ | ⟨hk, hse, hxc, hs5⟩ | hk
          · have HN : Hid (Inv r' 1 last) := Lib.hid (HACT.out _ _ (.inl ⟨hk, rfl, rfl⟩))
            rw [hk] at e0
            clear HACT hk
            go_wp2
            go_roundw
            case rel => exact ⟨j + 1, A', n', r', last, 1, by omega, by go_num, rfl, HN.out, HLN1.out, HALN.out⟩
            case measure => simp [intOf]; omega
          · have HN : Hid (Inv r' 2 (cAt L j).c) := Lib.hid (HACT.out _ _ (.inr (.inl ⟨hk, rfl, rfl⟩)))
            have d1 : decide (seen < 1) = false := by simp; omega
            rw [hk] at e0
            clear HACT hk
            go_wp2
            go_roundw
            case rel => exact ⟨j + 1, A', n', r', (cAt L j).c, 2, by omega, by go_num, rfl, HN.out, HLN2.out, HALN.out⟩
            case measure => simp [intOf]; omega
          · have HN : Hid (Inv r' 0 last) := Lib.hid (HACT.out _ _ (.inr (.inr (.inl ⟨hk, rfl, rfl⟩))))
            rw [hk] at e0
            clear HACT hk
            go_wp2
            go_roundw
            case rel => exact ⟨j + 1, A', n', r', last, 0, by omega, by go_num, rfl, HN.out, HLN1.out, HALN.out⟩
            case measure => simp [intOf]; omega
          · have HN : Hid (Inv r' 3 last) := Lib.hid (HACT.out _ _ (.inr (.inr (.inr (.inl ⟨hk, rfl, rfl⟩)))))
            subst hse
            rw [hxc] at e2 e3 e4
            clear hxc
            rw [hk] at e0
            clear HACT hk
            go_wp2
            go_quiet (fail)
            go_wp2
            go_roundw
            case rel => exact ⟨j + 1, A', n', r', last, 3, by omega, by go_num, rfl, HN.out, HLN1D.out _, HALN.out⟩
            case measure => simp [intOf]; omega
          · have HN : Hid (Inv r' 3 last) := Lib.hid (HACT.out _ _ (.inr (.inr (.inr (.inr (.inl ⟨hk, hse.symm, rfl⟩))))))
            subst hse
            rw [hxc] at e2 e3 e4
            clear hxc
            have d5 : (r'.s != 5) = false := by rw [hs5]; rfl
            clear hs5
            rw [hk] at e0
            clear HACT hk
            go_wp2
            go_quiet (fail)
            go_wp2
            go_roundw
            case rel => exact ⟨j + 1, A', n', r', last, 3, by omega, by go_num, rfl, HN.out, HLN1D.out _, HALN.out⟩
            case measure => simp [intOf]; omega
          · have HN : Hid (Inv r' seen last) := Lib.hid (HACT.out _ _ (.inr (.inr (.inr (.inr (.inr ⟨hk, rfl, rfl⟩))))))
            rw [hk] at e0
            clear HACT hk
            go_wp2
            go_roundw
            case rel => exact ⟨j + 1, A', n', r', last, seen, by omega, by go_num, rfl, HN.out, HLN1.out, HALN.out⟩
            case measure => simp [intOf]; omega
    · go_wp2_with fail
      refine (awake_any _ HLS.out.st.tab).mono ?_
      rintro e w8 ⟨rfl, hb8⟩
      have HLS := Lib.hid (HLS.out.calc_ HX.out hb8)
      clear hb8
      go_wp2
      go_ret
      exact ⟨rfl, HLS.out.st.below⟩
end Go.Proofs.YtolkdidcmingkaaDoor
