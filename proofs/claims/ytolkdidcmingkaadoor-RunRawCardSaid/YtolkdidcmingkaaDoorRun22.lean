/-
  Chapter 40: the walk of the law RunSteps.
-/
import Derived.Test.YtolkdidcmingkaaDoorRun16
import Derived.Test.YtolkdidcmingkaaDoorRun20
namespace Go.Proofs.YtolkdidcmingkaaDoor
open Go.RowKit
set_option linter.unusedVariables false
set_option linter.unusedSimpArgs false

/-- a run in a variable of its own, its employees below block B' -/
def XA (m B' : Nat) (p : RP) (A : Option Addr) (n : Nat) (W : World) : Prop := Blk W m 27 (rpV p A n) ∧ RdI W B' A p.E ∧ B' ≤ W.heap.size
theorem xa_stable {m B' rb hi n : Nat} {p : RP} {A : Option Addr} (h1 : ¬ rb = m) (h2 : hi + 1 = B') (h3 : m < B') (hA : ∀ b off, A = some ⟨b, off, none⟩ → b ≠ rb) : Stable (XA m B' p A n) rb hi := by
  refine ⟨fun W W' hx hb => ⟨hx.1.below hb hx.1.lt, hx.2.1.below (hb.mono hx.2.2), Nat.le_trans hx.2.2 hb.size⟩, fun g W W' hg hx ho => ?_⟩
  rcases hg with rfl | hg
  · exact ⟨hx.1.grown ho (by intro e; injection e with e; exact h1 e.symm), Rd.far hx.2.1 ho hA, Nat.le_trans hx.2.2 ho.size⟩
  · exact ⟨hx.1.grown ho (by intro e; injection e; omega), hx.2.1.below (ho.below hx.2.2 (by omega)), Nat.le_trans hx.2.2 ho.size⟩
/-- only new blocks since W0 -/
def RG (W0 W : World) : Prop := Below W0.heap.size W0 W
theorem RG.refl (W : World) : RG W W := Below.refl _ _
theorem RG.size {W0 W : World} (h : RG W0 W) : W0.heap.size ≤ W.heap.size := Below.size h
theorem RG.calc_ {W0 W W' : World} (h : RG W0 W) (hb : Below W.heap.size W W') : RG W0 W' := Below.trans h (hb.mono h.size)
theorem RG.drew {W0 W : World} (h : RG W0 W) : RG W0 W.drew := h.calc_ (below_drewN (Below.refl _ _) 1)
theorem RG.blk {W0 W : World} (h : RG W0 W) {g : Nat} {t : TypeId} {cs : Array Value} (hb : Blk W0 g t cs) : Blk W g t cs := hb.below h hb.lt
theorem prd_calc {W W' : World} {A : Option Addr} {K : List Int} (h : RdI W W.heap.size A K) (hb : Below W.heap.size W W') : RdI W' W'.heap.size A K := Rd.more (h.below hb) hb.size
theorem prd_drew {W : World} {A : Option Addr} {K : List Int} (h : RdI W W.heap.size A K) : RdI W.drew W.drew.heap.size A K := prd_calc h (below_drewN (Below.refl _ _) 1)

set_option maxHeartbeats 12800000 in
set_option maxRecDepth 100000 in
theorem runSteps_walk (A0 : Option Addr) (c0 : Nat) (l0 : List Int) (w : World) (hT : Tab w) (hr0 : RdI w w.heap.size A0 l0) (hl0 : l0.length ≤ 9223372036854775807) :
    Calls Tryd.prog 6 #[.slice A0 l0.length c0] w (RetB true w) := by
  have HBR := Lib.hid (law_cmds A0 c0 12 l0 w (by omega) hr0 hl0 hT)
  clear hr0
  go_enter Tryd.func6, Tryd.ntmps6
  go_wp2_with fail
  refine HBR.out.mono ?_
  rintro e w1 ⟨rfl, hbr⟩
  have HBR := Lib.hid hbr
  clear hbr
  go_wp2_with fail
  refine HBR.out.mono ?_
  rintro e w2 ⟨Ad, cd, L, rfl, hL, hc, hb2, hT2⟩
  have hw2 := hb2.size
  obtain ⟨B, hBe⟩ : ∃ B, B = w2.heap.size := ⟨_, rfl⟩
  obtain ⟨rb, hrb⟩ : ∃ rb, rb = w2.heap.size := ⟨_, rfl⟩
  have HX : Hid (Stable XT rb rb) := Lib.hid (xt_stable _ _)
  have HLS0 : Hid (LS XT rb w rb draft none 0 B Ad L (w2.alloc (.cells #[.int .i64 1, .slice none 0 0, .int .i64 0, .int .i64 0, .int .i64 0] 27))) := Lib.hid (by
    have hb : Below w2.heap.size w2 (w2.alloc (.cells #[.int .i64 1, .slice none 0 0, .int .i64 0, .int .i64 0, .int .i64 0] 27)) := (Below.refl _ _).alloc (Nat.le_refl _) _
    refine ⟨⟨hb2.trans (hb.mono hb2.size), ?_, by omega, Rd.none_, (fun b off e => by cases e), ?_, by omega, by simp [draft], hT2.calc_ hb⟩, trivial, by simp; omega, by omega⟩
    · rw [hrb]; exact Blk.new _ _ _
    · rw [hBe]; exact hc.below hb)
  clear hc hb2 hT2 HBR hT hBe
  go_wp2
  rw [← hrb]
  clear hrb
  go_loopw [6, 7, 8, 9, 10] (fun i _ _ _ _ wr => ∃ (j : Nat) (A : Option Addr) (n : Nat) (r : RP), j ≤ L.length ∧ i = .int .i64 j ∧ validB r.s r.E r.c = true ∧ LS XT rb w rb r A n B Ad L wr) (fun i _ _ _ _ _ => L.length - (intOf i).toNat)
  case atStart => exact ⟨0, none, 0, draft, Nat.zero_le _, rfl, valid_draft, HLS0.out⟩
  case round =>
    obtain ⟨j, A, n, r, hj, rfl, hva, hls⟩ := hrel
    have HVA := Lib.hid hva
    have HLS := Lib.hid hls
    clear hva hls HLS0
    by_cases hlt : j < L.length
    · obtain ⟨b, off, rfl, hbb, hcell⟩ := HLS.out.st.cmds.all (by omega)
      obtain ⟨e0, e1, e2, e3, e4⟩ := hcell j hlt
      clear hcell
      have x0 := HLS.out.st.box.cell 0
      have x1 := HLS.out.st.box.cell 1
      have x2 := HLS.out.st.box.cell 2
      have x3 := HLS.out.st.box.cell 3
      have x4 := HLS.out.st.box.cell 4
      simp [rpV] at x0 x1 x2 x3 x4
      have HSTEP : Hid (∀ W, LS XT rb w rb (r) A n B (some ⟨b, off, none⟩) L W → Calls Tryd.prog 10 #[.agg #[.int .i64 (r).s, .slice A (r).E.length n, .int .i64 (r).c.1, .int .i64 (r).c.2.1, .int .i64 (r).c.2.2], .agg #[.int .i64 (cAt L j).k, .slice (cAt L j).A (cAt L j).F.length (cAt L j).n, .int .i64 (cAt L j).c.1, .int .i64 (cAt L j).c.2.1, .int .i64 (cAt L j).c.2.2]] W (StPost XT rb w rb (r) A n B (some ⟨b, off, none⟩) L (cAt L j) W)) := Lib.hid (fun W h => h.step_ HX.out j hlt)
      have hA1 : Hid ((r).E ≠ [] → ∀ b off, A = some ⟨b, off, none⟩ → b < wr.heap.size) := Lib.hid (rd_lt HLS.out.st.rd)
      have hrbw := HLS.out.st.box.lt
      have hhiw := HLS.out.hlt
      have hbw : b < wr.heap.size := by have := HLS.out.st.blt; omega
      have hn1 : ¬ wr.heap.size = rb := by omega
      have hn2 : ¬ rb = wr.heap.size := by omega
      have hn3 : ¬ wr.heap.size = b := by omega
      have hn4 : ¬ b = wr.heap.size := by omega
      go_upto_region 7 with (fail)
      go_cut [7, 8] (fun a9 a10 wx => NX XT rb w rb r A n B (some ⟨b, off, none⟩) L (cAt L j) a9 a10 wx)
      case first =>
        have hk1 : (0 : Int) ≤ (j : Int) := by omega
        have hk2 : (j : Int) < (L.length : Int) := by omega
        go_region_held3 (fun W => W.cell? ⟨rb, 0, none⟩ = some (.int .i64 r.s) ∧ W.cell? ⟨rb, 1, none⟩ = some (.slice A r.E.length n) ∧ W.cell? ⟨rb, 2, none⟩ = some (.int .i64 r.c.1) ∧ W.cell? ⟨rb, 3, none⟩ = some (.int .i64 r.c.2.1) ∧ W.cell? ⟨rb, 4, none⟩ = some (.int .i64 r.c.2.2) ∧ W.cell? ⟨b, off + j * 5, none⟩ = some (.int .i64 (cAt L j).k) ∧ W.cell? ⟨b, off + j * 5 + 1, none⟩ = some (.slice (cAt L j).A (cAt L j).F.length (cAt L j).n) ∧ W.cell? ⟨b, off + j * 5 + 2, none⟩ = some (.int .i64 (cAt L j).c.1) ∧ W.cell? ⟨b, off + j * 5 + 3, none⟩ = some (.int .i64 (cAt L j).c.2.1) ∧ W.cell? ⟨b, off + j * 5 + 4, none⟩ = some (.int .i64 (cAt L j).c.2.2)) (go_keep)
          (first | (go_at_call 10; refine (HSTEP.out _ ?_).mono ?_; (repeat (first | exact HLS.out | apply LS.alloc HX.out | apply LS.drew HX.out)); rintro e w6 ⟨A6, n6, rfl, hb6, hr6, hf6, hl6, hls6⟩; have HLS6 := Lib.hid hls6; have HR6 := Lib.hid hr6; have HF6 := Lib.hid hf6; have HB6 := Lib.hid hb6; have y0 := hls6.st.box.cell 0; have y1 := hls6.st.box.cell 1; have y2 := hls6.st.box.cell 2; have y3 := hls6.st.box.cell 3; have y4 := hls6.st.box.cell 4; (simp [rpV] at y0 y1 y2 y3 y4); have k0 := (bcl (b := b) (o := off + j * 5) hb6 (by first | exact hbw | (simp; omega))); have k1 := (bcl (b := b) (o := off + j * 5 + 1) hb6 (by first | exact hbw | (simp; omega))); have k2 := (bcl (b := b) (o := off + j * 5 + 2) hb6 (by first | exact hbw | (simp; omega))); have k3 := (bcl (b := b) (o := off + j * 5 + 3) hb6 (by first | exact hbw | (simp; omega))); have k4 := (bcl (b := b) (o := off + j * 5 + 4) hb6 (by first | exact hbw | (simp; omega))); (simp [e0, e1, e2, e3, e4, hbw] at k0 k1 k2 k3 k4); (first | (with_reducible have HMB := bx hb6) | (with_reducible have HMB := bx' hb6) | skip); (try (have m0 : w6.cell? ⟨wr.heap.size, 0, none⟩ = some (.int .i64 0) := HMB.cell 0; have m1 : w6.cell? ⟨wr.heap.size, 1, none⟩ = some (.slice none 0 0) := HMB.cell 1; have m2 : w6.cell? ⟨wr.heap.size, 2, none⟩ = some (.int .i64 0) := HMB.cell 2; have m3 : w6.cell? ⟨wr.heap.size, 3, none⟩ = some (.int .i64 0) := HMB.cell 3; have m4 : w6.cell? ⟨wr.heap.size, 4, none⟩ = some (.int .i64 0) := HMB.cell 4; have mf0 : w6.frozen? ⟨wr.heap.size, 0, none⟩ = false := HMB.frozen 0; have mf1 : w6.frozen? ⟨wr.heap.size, 1, none⟩ = false := HMB.frozen 1; have mf2 : w6.frozen? ⟨wr.heap.size, 2, none⟩ = false := HMB.frozen 2; have mf3 : w6.frozen? ⟨wr.heap.size, 3, none⟩ = false := HMB.frozen 3; have mf4 : w6.frozen? ⟨wr.heap.size, 4, none⟩ = false := HMB.frozen 4; have HMH := Lib.hid HMB; clear HMB)); clear hb6 hr6 hf6 hls6))
        all_goals go_wp2_with fail
        all_goals go_meet
        · exact nx_new HX.out HLS6.out HR6.out HF6.out (by simpa using hhiw) hl6 rfl
        · exact nx_old HX.out HLS6.out (fun hE b off e => by have := hA1.out hE b off e; omega) HR6.out HF6.out (by simp; omega) (by simp) hl6 HMH.out hhiw
      case rest =>
        obtain ⟨m1, A1, n1, rfl, rfl, hbm, hmi, hr', hne', hl1, hls'⟩ := hcut
        have HLS := Lib.hid hls'
        have HM1 := Lib.hid hbm
        have HR1 := Lib.hid hr'
        have HNE1 := Lib.hid hne'
        have hrbm : rb < wc.heap.size := hls'.st.box.lt
        clear hbm hr' hne' hls' x0 x1 x2 x3 x4 e0 e1 e2 e3 e4 HSTEP
        have hrm : ¬ rb = m1 := by have := HLS.out.hle; omega
        have hmr : ¬ m1 = rb := by have := HLS.out.hle; omega
        rename World => wd
        obtain ⟨hi2, hhi2⟩ : ∃ h, h + 1 = wd.heap.size := ⟨wd.heap.size - 1, by omega⟩
        have hm1w := HM1.out.lt
        obtain ⟨X2, hX2e⟩ : ∃ X, X = XA m1 wd.heap.size (stP r (cAt L j)) A1 n1 := ⟨_, rfl⟩
        have HX2 : Hid (Stable X2 rb hi2) := Lib.hid (by rw [hX2e]; exact xa_stable hrm hhi2 hm1w (fun b off e => by have := HNE1.out b off e; omega))
        have HLS2 : Hid (LS X2 hi2 w rb r A n B (some ⟨b, off, none⟩) L wd) := Lib.hid ⟨HLS.out.st, by rw [hX2e]; exact ⟨HM1.out, HR1.out, Nat.le_refl _⟩, by omega, by omega⟩
        have HXE := Lib.hid hX2e
        have HLS := HLS2
        have hrb_ : ∀ x, wd.heap.size ≤ x → ¬ m1 = x := fun x hx => by omega
        clear hX2e HLS2 HM1 HR1 HNE1 hrbw hhiw hbw hn1 hn2 hn3 hn4 hrbm hA1 hhi2 hl1 hrb_
        obtain ⟨b2, off2, hbe, hbb2, hcell⟩ := HLS.out.st.cmds.all (by omega)
        injection hbe with hbe
        injection hbe with hbe1 hbe2
        subst hbe1 hbe2
        obtain ⟨e0, e1, e2, e3, e4⟩ := hcell j hlt
        clear hcell
        have x0 := HLS.out.st.box.cell 0
        have x1 := HLS.out.st.box.cell 1
        have x2 := HLS.out.st.box.cell 2
        have x3 := HLS.out.st.box.cell 3
        have x4 := HLS.out.st.box.cell 4
        simp [rpV] at x0 x1 x2 x3 x4
        have HSTEP : Hid (∀ W, LS X2 hi2 w rb (r) A n B (some ⟨b, off, none⟩) L W → Calls Tryd.prog 17 #[.agg #[.int .i64 (r).s, .slice A (r).E.length n, .int .i64 (r).c.1, .int .i64 (r).c.2.1, .int .i64 (r).c.2.2], .agg #[.int .i64 (cAt L j).k, .slice (cAt L j).A (cAt L j).F.length (cAt L j).n, .int .i64 (cAt L j).c.1, .int .i64 (cAt L j).c.2.1, .int .i64 (cAt L j).c.2.2]] W (StPost X2 hi2 w rb (r) A n B (some ⟨b, off, none⟩) L (cAt L j) W)) := Lib.hid (fun W h => h.rstep_ HX2.out j hlt)
        have hA1 : Hid ((r).E ≠ [] → ∀ b off, A = some ⟨b, off, none⟩ → b < wd.heap.size) := Lib.hid (rd_lt HLS.out.st.rd)
        have hrbw := HLS.out.st.box.lt
        have hhiw := HLS.out.hlt
        have hbw : b < wd.heap.size := by have := HLS.out.st.blt; omega
        have hn1 : ¬ wd.heap.size = rb := by omega
        have hn2 : ¬ rb = wd.heap.size := by omega
        have hn3 : ¬ wd.heap.size = b := by omega
        have hn4 : ¬ b = wd.heap.size := by omega
        go_upto_region 8 with (fail)
        go_cut [9, 10] (fun a9 a10 wx => NX X2 hi2 w rb r A n B (some ⟨b, off, none⟩) L (cAt L j) a9 a10 wx)
        case first =>
          have hk1 : (0 : Int) ≤ (j : Int) := by omega
          have hk2 : (j : Int) < (L.length : Int) := by omega
          go_region_held3 (fun W => W.cell? ⟨rb, 0, none⟩ = some (.int .i64 r.s) ∧ W.cell? ⟨rb, 1, none⟩ = some (.slice A r.E.length n) ∧ W.cell? ⟨rb, 2, none⟩ = some (.int .i64 r.c.1) ∧ W.cell? ⟨rb, 3, none⟩ = some (.int .i64 r.c.2.1) ∧ W.cell? ⟨rb, 4, none⟩ = some (.int .i64 r.c.2.2) ∧ W.cell? ⟨b, off + j * 5, none⟩ = some (.int .i64 (cAt L j).k) ∧ W.cell? ⟨b, off + j * 5 + 1, none⟩ = some (.slice (cAt L j).A (cAt L j).F.length (cAt L j).n) ∧ W.cell? ⟨b, off + j * 5 + 2, none⟩ = some (.int .i64 (cAt L j).c.1) ∧ W.cell? ⟨b, off + j * 5 + 3, none⟩ = some (.int .i64 (cAt L j).c.2.1) ∧ W.cell? ⟨b, off + j * 5 + 4, none⟩ = some (.int .i64 (cAt L j).c.2.2)) (go_keep)
            (first | (go_at_call 17; refine (HSTEP.out _ ?_).mono ?_; (repeat (first | exact HLS.out | apply LS.alloc HX2.out | apply LS.drew HX2.out)); rintro e w6 ⟨A6, n6, rfl, hb6, hr6, hf6, hl6, hls6⟩; have HLS6 := Lib.hid hls6; have HR6 := Lib.hid hr6; have HF6 := Lib.hid hf6; have HB6 := Lib.hid hb6; have y0 := hls6.st.box.cell 0; have y1 := hls6.st.box.cell 1; have y2 := hls6.st.box.cell 2; have y3 := hls6.st.box.cell 3; have y4 := hls6.st.box.cell 4; (simp [rpV] at y0 y1 y2 y3 y4); have k0 := (bcl (b := b) (o := off + j * 5) hb6 (by first | exact hbw | (simp; omega))); have k1 := (bcl (b := b) (o := off + j * 5 + 1) hb6 (by first | exact hbw | (simp; omega))); have k2 := (bcl (b := b) (o := off + j * 5 + 2) hb6 (by first | exact hbw | (simp; omega))); have k3 := (bcl (b := b) (o := off + j * 5 + 3) hb6 (by first | exact hbw | (simp; omega))); have k4 := (bcl (b := b) (o := off + j * 5 + 4) hb6 (by first | exact hbw | (simp; omega))); (simp [e0, e1, e2, e3, e4, hbw] at k0 k1 k2 k3 k4); (first | (with_reducible have HMB := bx hb6) | (with_reducible have HMB := bx' hb6) | skip); (try (have m0 : w6.cell? ⟨wd.heap.size, 0, none⟩ = some (.int .i64 0) := HMB.cell 0; have m1 : w6.cell? ⟨wd.heap.size, 1, none⟩ = some (.slice none 0 0) := HMB.cell 1; have m2 : w6.cell? ⟨wd.heap.size, 2, none⟩ = some (.int .i64 0) := HMB.cell 2; have m3 : w6.cell? ⟨wd.heap.size, 3, none⟩ = some (.int .i64 0) := HMB.cell 3; have m4 : w6.cell? ⟨wd.heap.size, 4, none⟩ = some (.int .i64 0) := HMB.cell 4; have mf0 : w6.frozen? ⟨wd.heap.size, 0, none⟩ = false := HMB.frozen 0; have mf1 : w6.frozen? ⟨wd.heap.size, 1, none⟩ = false := HMB.frozen 1; have mf2 : w6.frozen? ⟨wd.heap.size, 2, none⟩ = false := HMB.frozen 2; have mf3 : w6.frozen? ⟨wd.heap.size, 3, none⟩ = false := HMB.frozen 3; have mf4 : w6.frozen? ⟨wd.heap.size, 4, none⟩ = false := HMB.frozen 4; have HMH := Lib.hid HMB; clear HMB)); clear hb6 hr6 hf6 hls6))
          all_goals go_wp2_with fail
          all_goals go_meet
          · exact nx_new HX2.out HLS6.out HR6.out HF6.out (by simpa using hhiw) hl6 rfl
          · exact nx_old HX2.out HLS6.out (fun hE b off e => by have := hA1.out hE b off e; omega) HR6.out HF6.out (by simp; omega) (by simp) hl6 HMH.out hhiw
        case rest =>
          obtain ⟨m, A', n', rfl, rfl, hbm, hmi, hr', hne', hl', hls'⟩ := hcut
          have HLS := Lib.hid hls'
          have HM := Lib.hid hbm
          have HR' := Lib.hid hr'
          have HNE := Lib.hid hne'
          have hrbm : rb < wc.heap.size := hls'.st.box.lt
          clear hbm hr' hne' hls' x0 x1 x2 x3 x4 e0 e1 e2 e3 e4 HSTEP
          have hrm : ¬ rb = m := by have := HLS.out.hle; omega
          have hmr : ¬ m = rb := by have := HLS.out.hle; omega
          have HBX := Lib.hid HLS.out.st.box
          have hxa : XA m1 wd.heap.size (stP r (cAt L j)) A1 n1 wc := by have := HLS.out.ex; rwa [HXE.out] at this
          have HBA := Lib.hid hxa.1
          have HRA : Hid (RdI wc wc.heap.size A1 (stP r (cAt L j)).E) := Lib.hid (Rd.more hxa.2.1 hxa.2.2)
          have HBB := HM
          have HRB' := HR'
          have hrl := HLS.out.st.len
          have hle2 := HLS.out.hle
          clear hxa
          have HLN := Lib.hid (fun W (hr : RdI W W.heap.size A' (stP r (cAt L j)).E) (hls : LS XT rb w rb r A n B (some ⟨b, off, none⟩) L W) => hls.next (r' := stP r (cAt L j)) (n' := n') (xt_stable rb rb) hr (fun b off e => by have := HNE.out b off e; omega) hl')
          have HVS : Hid (erP r (cAt L j) = 0 → validB (stP r (cAt L j)).s (stP r (cAt L j)).E (stP r (cAt L j)).c = true) := Lib.hid (fun he => valid_step HVA.out he)
          have HBK : Hid (∀ W, RG wc W → LS XT rb w rb r A n B (some ⟨b, off, none⟩) L W) := Lib.hid (fun W h => by
            have h1 := HLS.out.calc_ HX2.out h
            exact ⟨h1.st, trivial, h1.st.box.lt, Nat.le_refl _⟩)
          generalize hr1 : stP r (cAt L j) = r1 at *
          have hee : (erP r (cAt L j) != erP r (cAt L j)) = false := by simp
          generalize hee1 : erP r (cAt L j) = er at *
          clear hr1 hee1
          have HSAME : Hid (∀ W, RG wc W → Calls Tryd.prog 16 #[.agg #[.int .i64 r1.s, .slice A1 r1.E.length n1, .int .i64 r1.c.1, .int .i64 r1.c.2.1, .int .i64 r1.c.2.2], .agg #[.int .i64 r1.s, .slice A' r1.E.length n', .int .i64 r1.c.1, .int .i64 r1.c.2.1, .int .i64 r1.c.2.2]] W (RetB true W)) := Lib.hid (fun W h => same_eq r1.s r1.c.1 r1.c.2.1 r1.c.2.2 r1.E A1 A' n1 n' W (Rd.more (HRA.out.below h) h.size) (Rd.more (HRB'.out.below h) h.size) (by omega))
          have HVALID : Hid (∀ W, RG wc W → Calls Tryd.prog 11 #[.agg #[.int .i64 r.s, .slice A r.E.length n, .int .i64 r.c.1, .int .i64 r.c.2.1, .int .i64 r.c.2.2]] W (RetB true W)) := Lib.hid (fun W h => by
            have := rvalid_any r.s A n W.heap.size r.E r.c.1 r.c.2.1 r.c.2.2 W (HBK.out W h).st.rd (Nat.le_refl _) (by omega)
            rwa [show validB r.s r.E (r.c.1, r.c.2.1, r.c.2.2) = true from HVA.out] at this)
          have HPERM : Hid (∀ W, RG wc W → Calls Tryd.prog 19 #[.agg #[.int .i64 r.s, .slice A r.E.length n, .int .i64 r.c.1, .int .i64 r.c.2.1, .int .i64 r.c.2.2]] W (NewL (permL r.s r.E (r.c.1, r.c.2.1, r.c.2.2)) W)) := Lib.hid (fun W h => permitted_any r.s A n r.E r.c.1 r.c.2.1 r.c.2.2 W (HBK.out W h).st.tab (HBK.out W h).st.rd (by omega))
          have HRPERM : Hid (∀ W, RG wc W → Calls Tryd.prog 20 #[.agg #[.int .i64 r.s, .slice A r.E.length n, .int .i64 r.c.1, .int .i64 r.c.2.1, .int .i64 r.c.2.2]] W (NewL (permL r.s r.E (r.c.1, r.c.2.1, r.c.2.2)) W)) := Lib.hid (fun W h => rpermitted_any r.s A n r.E r.c.1 r.c.2.1 r.c.2.2 W (HBK.out W h).st.rd hrl)
          have hK : (permL r.s r.E (r.c.1, r.c.2.1, r.c.2.2)).length ≤ 10 := by unfold permL; split; exact pmTo_len _ _; simp
          generalize permL r.s r.E (r.c.1, r.c.2.1, r.c.2.2) = K at *
          have HINTS : Hid (∀ W Ap Aq np nq, RdI W W.heap.size Ap K → RdI W W.heap.size Aq K → Calls Tryd.prog 18 #[.slice Ap K.length np, .slice Aq K.length nq] W (RetB true W)) := Lib.hid (fun W Ap Aq np nq h1 h2 => ints_eq K Ap Aq np nq W h1 h2 (by omega))
          have HG := Lib.hid (RG.refl wc)
          have x0 := HBX.out.cell 0
          have x1 := HBX.out.cell 1
          have x2 := HBX.out.cell 2
          have x3 := HBX.out.cell 3
          have x4 := HBX.out.cell 4
          have a0 := HBA.out.cell 0
          have a1 := HBA.out.cell 1
          have a2 := HBA.out.cell 2
          have a3 := HBA.out.cell 3
          have a4 := HBA.out.cell 4
          have m0 := HBB.out.cell 0
          have m1' := HBB.out.cell 1
          have m2 := HBB.out.cell 2
          have m3 := HBB.out.cell 3
          have m4 := HBB.out.cell 4
          simp [rpV] at x0 x1 x2 x3 x4 a0 a1 a2 a3 a4 m0 m1' m2 m3 m4
          go_upto_region 9 with (fail)
          go_cut [61] (fun v wx => v = .bool false ∧ RG wc wx)
          case first =>
            go_region_held3 (fun W => W.cell? ⟨rb, 0, none⟩ = some (.int .i64 r.s) ∧ W.cell? ⟨rb, 1, none⟩ = some (.slice A r.E.length n) ∧ W.cell? ⟨rb, 2, none⟩ = some (.int .i64 r.c.1) ∧ W.cell? ⟨rb, 3, none⟩ = some (.int .i64 r.c.2.1) ∧ W.cell? ⟨rb, 4, none⟩ = some (.int .i64 r.c.2.2) ∧ W.cell? ⟨m1, 0, none⟩ = some (.int .i64 r1.s) ∧ W.cell? ⟨m1, 1, none⟩ = some (.slice A1 r1.E.length n1) ∧ W.cell? ⟨m1, 2, none⟩ = some (.int .i64 r1.c.1) ∧ W.cell? ⟨m1, 3, none⟩ = some (.int .i64 r1.c.2.1) ∧ W.cell? ⟨m1, 4, none⟩ = some (.int .i64 r1.c.2.2) ∧ W.cell? ⟨m, 0, none⟩ = some (.int .i64 r1.s) ∧ W.cell? ⟨m, 1, none⟩ = some (.slice A' r1.E.length n') ∧ W.cell? ⟨m, 2, none⟩ = some (.int .i64 r1.c.1) ∧ W.cell? ⟨m, 3, none⟩ = some (.int .i64 r1.c.2.1) ∧ W.cell? ⟨m, 4, none⟩ = some (.int .i64 r1.c.2.2)) (go_keep)
              (first | (go_at_call 16; refine (HSAME.out _ ?_).mono ?_; (repeat (first | exact HG.out | apply RG.drew)); rintro e w6 ⟨rfl, hb6⟩; (have hg6 : RG wc w6 := (by refine RG.calc_ ?_ hb6; (repeat (first | exact HG.out | apply RG.drew)))); have HG := Lib.hid hg6; have bx6 := hg6.blk HBX.out; have ba6 := hg6.blk HBA.out; have bb6 := hg6.blk HBB.out; have x0 := bx6.cell 0; have x1 := bx6.cell 1; have x2 := bx6.cell 2; have x3 := bx6.cell 3; have x4 := bx6.cell 4; have a0 := ba6.cell 0; have a1 := ba6.cell 1; have a2 := ba6.cell 2; have a3 := ba6.cell 3; have a4 := ba6.cell 4; have m0 := bb6.cell 0; have m1' := bb6.cell 1; have m2 := bb6.cell 2; have m3 := bb6.cell 3; have m4 := bb6.cell 4; (simp [rpV] at x0 x1 x2 x3 x4 a0 a1 a2 a3 a4 m0 m1' m2 m3 m4); clear hb6 hg6 bx6 ba6 bb6) | (go_at_call 11; refine (HVALID.out _ ?_).mono ?_; (repeat (first | exact HG.out | apply RG.drew)); rintro e w6 ⟨rfl, hb6⟩; (have hg6 : RG wc w6 := (by refine RG.calc_ ?_ hb6; (repeat (first | exact HG.out | apply RG.drew)))); have HG := Lib.hid hg6; have bx6 := hg6.blk HBX.out; have ba6 := hg6.blk HBA.out; have bb6 := hg6.blk HBB.out; have x0 := bx6.cell 0; have x1 := bx6.cell 1; have x2 := bx6.cell 2; have x3 := bx6.cell 3; have x4 := bx6.cell 4; have a0 := ba6.cell 0; have a1 := ba6.cell 1; have a2 := ba6.cell 2; have a3 := ba6.cell 3; have a4 := ba6.cell 4; have m0 := bb6.cell 0; have m1' := bb6.cell 1; have m2 := bb6.cell 2; have m3 := bb6.cell 3; have m4 := bb6.cell 4; (simp [rpV] at x0 x1 x2 x3 x4 a0 a1 a2 a3 a4 m0 m1' m2 m3 m4); clear hb6 hg6 bx6 ba6 bb6) | (go_at_call 19; refine (HPERM.out _ ?_).mono ?_; (repeat (first | exact HG.out | apply RG.drew)); rintro e w6 ⟨Ap, np, rfl, hb6, hr6⟩; (have hg6 : RG wc w6 := (by refine RG.calc_ ?_ hb6; (repeat (first | exact HG.out | apply RG.drew)))); have HG := Lib.hid hg6; have bx6 := hg6.blk HBX.out; have ba6 := hg6.blk HBA.out; have bb6 := hg6.blk HBB.out; have x0 := bx6.cell 0; have x1 := bx6.cell 1; have x2 := bx6.cell 2; have x3 := bx6.cell 3; have x4 := bx6.cell 4; have a0 := ba6.cell 0; have a1 := ba6.cell 1; have a2 := ba6.cell 2; have a3 := ba6.cell 3; have a4 := ba6.cell 4; have m0 := bb6.cell 0; have m1' := bb6.cell 1; have m2 := bb6.cell 2; have m3 := bb6.cell 3; have m4 := bb6.cell 4; (simp [rpV] at x0 x1 x2 x3 x4 a0 a1 a2 a3 a4 m0 m1' m2 m3 m4); have HPa := Lib.hid hr6; clear hr6; (first | (have hq6 := prd_calc HPb.out hb6; have HPb := Lib.hid hq6; clear hq6) | (have hq6 := prd_calc (prd_drew HPb.out) hb6; have HPb := Lib.hid hq6; clear hq6) | skip); clear hb6 hg6 bx6 ba6 bb6) | (go_at_call 20; refine (HRPERM.out _ ?_).mono ?_; (repeat (first | exact HG.out | apply RG.drew)); rintro e w6 ⟨Aq, nq, rfl, hb6, hr6⟩; (have hg6 : RG wc w6 := (by refine RG.calc_ ?_ hb6; (repeat (first | exact HG.out | apply RG.drew)))); have HG := Lib.hid hg6; have bx6 := hg6.blk HBX.out; have ba6 := hg6.blk HBA.out; have bb6 := hg6.blk HBB.out; have x0 := bx6.cell 0; have x1 := bx6.cell 1; have x2 := bx6.cell 2; have x3 := bx6.cell 3; have x4 := bx6.cell 4; have a0 := ba6.cell 0; have a1 := ba6.cell 1; have a2 := ba6.cell 2; have a3 := ba6.cell 3; have a4 := ba6.cell 4; have m0 := bb6.cell 0; have m1' := bb6.cell 1; have m2 := bb6.cell 2; have m3 := bb6.cell 3; have m4 := bb6.cell 4; (simp [rpV] at x0 x1 x2 x3 x4 a0 a1 a2 a3 a4 m0 m1' m2 m3 m4); have HPb := Lib.hid hr6; clear hr6; (first | (have hq6 := prd_calc HPa.out hb6; have HPa := Lib.hid hq6; clear hq6) | (have hq6 := prd_calc (prd_drew HPa.out) hb6; have HPa := Lib.hid hq6; clear hq6) | skip); clear hb6 hg6 bx6 ba6 bb6) | (go_at_call 18; first | (refine (HINTS.out _ _ _ _ _ HPa.out HPb.out).mono ?_; rintro e w6 ⟨rfl, hb6⟩; (have hg6 : RG wc w6 := (by refine RG.calc_ ?_ hb6; (repeat (first | exact HG.out | apply RG.drew)))); have HG := Lib.hid hg6; have bx6 := hg6.blk HBX.out; have ba6 := hg6.blk HBA.out; have bb6 := hg6.blk HBB.out; have x0 := bx6.cell 0; have x1 := bx6.cell 1; have x2 := bx6.cell 2; have x3 := bx6.cell 3; have x4 := bx6.cell 4; have a0 := ba6.cell 0; have a1 := ba6.cell 1; have a2 := ba6.cell 2; have a3 := ba6.cell 3; have a4 := ba6.cell 4; have m0 := bb6.cell 0; have m1' := bb6.cell 1; have m2 := bb6.cell 2; have m3 := bb6.cell 3; have m4 := bb6.cell 4; (simp [rpV] at x0 x1 x2 x3 x4 a0 a1 a2 a3 a4 m0 m1' m2 m3 m4); clear hb6 hg6 bx6 ba6 bb6) | (refine (HINTS.out _ _ _ _ _ (prd_drew HPa.out) (prd_drew HPb.out)).mono ?_; rintro e w6 ⟨rfl, hb6⟩; (have hg6 : RG wc w6 := (by refine RG.calc_ ?_ hb6; (repeat (first | exact HG.out | apply RG.drew)))); have HG := Lib.hid hg6; have bx6 := hg6.blk HBX.out; have ba6 := hg6.blk HBA.out; have bb6 := hg6.blk HBB.out; have x0 := bx6.cell 0; have x1 := bx6.cell 1; have x2 := bx6.cell 2; have x3 := bx6.cell 3; have x4 := bx6.cell 4; have a0 := ba6.cell 0; have a1 := ba6.cell 1; have a2 := ba6.cell 2; have a3 := ba6.cell 3; have a4 := ba6.cell 4; have m0 := bb6.cell 0; have m1' := bb6.cell 1; have m2 := bb6.cell 2; have m3 := bb6.cell 3; have m4 := bb6.cell 4; (simp [rpV] at x0 x1 x2 x3 x4 a0 a1 a2 a3 a4 m0 m1' m2 m3 m4); clear hb6 hg6 bx6 ba6 bb6)))
            all_goals go_wp2_with fail
            all_goals go_meet
            all_goals exact ⟨rfl, HG.out⟩
          case rest =>
            rename World => we
            obtain ⟨rfl, hge⟩ := hcut
            have HLE := Lib.hid (HBK.out _ hge)
            have HBM := Lib.hid (hge.blk HBB.out)
            have HRM := Lib.hid (Rd.more (HRB'.out.below hge) hge.size)
            have HLNE := Lib.hid (HLN.out _ HRM.out HLE.out)
            clear hge x0 x1 x2 x3 x4 a0 a1 a2 a3 a4 m0 m1' m2 m3 m4 HSAME HVALID HPERM HRPERM HINTS
            by_cases he : er = 0
            · have HN := Lib.hid (HVS.out he)
              subst he
              have x0 := HLE.out.st.box.cell 0
              have x1 := HLE.out.st.box.cell 1
              have x2 := HLE.out.st.box.cell 2
              have x3 := HLE.out.st.box.cell 3
              have x4 := HLE.out.st.box.cell 4
              have f0 := HLE.out.st.box.frozen 0
              have f1 := HLE.out.st.box.frozen 1
              have f2 := HLE.out.st.box.frozen 2
              have f3 := HLE.out.st.box.frozen 3
              have f4 := HLE.out.st.box.frozen 4
              have m0 := HBM.out.cell 0
              have m1' := HBM.out.cell 1
              have m2 := HBM.out.cell 2
              have m3 := HBM.out.cell 3
              have m4 := HBM.out.cell 4
              simp [rpV] at x0 x1 x2 x3 x4 m0 m1' m2 m3 m4
              go_wp2
              go_roundw
              case rel => exact ⟨j + 1, A', n', r1, by omega, by go_num, HN.out, HLNE.out⟩
              case measure => simp [intOf]; omega
            · have t0 : (er == 0) = false := by simpa using he
              clear he
              go_wp2
              go_roundw
              case rel => exact ⟨j + 1, A, n, r, by omega, by go_num, HVA.out, HLE.out⟩
              case measure => simp [intOf]; omega
    · go_wp2_with fail
      refine (awake_any _ HLS.out.st.tab).mono ?_
      rintro e w8 ⟨rfl, hb8⟩
      have HLS := Lib.hid (HLS.out.calc_ HX.out hb8)
      clear hb8
      go_wp2
      go_ret
      exact ⟨rfl, HLS.out.st.below⟩
end Go.Proofs.YtolkdidcmingkaaDoor
