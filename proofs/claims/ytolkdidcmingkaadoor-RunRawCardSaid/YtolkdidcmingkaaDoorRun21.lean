/-
  Chapter 40: the reference's Replay.
-/
import Derived.Test.YtolkdidcmingkaaDoorRun20
namespace Go.Proofs.YtolkdidcmingkaaDoor
open Go.RowKit
set_option linter.unusedVariables false
set_option linter.unusedSimpArgs false

set_option maxHeartbeats 6400000 in
set_option maxRecDepth 100000 in
theorem rreplay_any (Ad : Option Addr) (cp : Nat) (L : List CV) (w : World) (hT : Tab w) (hc : RdC w w.heap.size Ad L) (hL : L.length ≤ 100) :
    Calls Tryd.prog 21 #[.slice Ad L.length cp] w (RepPost L w) := by
  obtain ⟨B, hBe⟩ : ∃ B, B = w.heap.size := ⟨_, rfl⟩
  obtain ⟨rb, hrb⟩ : ∃ rb, rb = w.heap.size + 1 := ⟨_, rfl⟩
  obtain ⟨X, hXe⟩ : ∃ X : World → Prop, X = fun W => Blk W w.heap.size 27 #[.int .i64 0, .slice none 0 0, .int .i64 0, .int .i64 0, .int .i64 0] := ⟨_, rfl⟩
  have HX : Hid (Stable X rb rb) := Lib.hid (by
    rw [hXe]
    refine ⟨fun W W' hx hb => hx.below hb hx.lt, fun g W W' hg hx ho => hx.grown ho (by intro e; injection e; omega)⟩)
  have HLS0 : Hid (LS X rb w rb (rpTo L 0) none 0 B Ad L ((w.alloc (.cells #[.int .i64 0, .slice none 0 0, .int .i64 0, .int .i64 0, .int .i64 0] 27)).alloc (.cells #[.int .i64 1, .slice none 0 0, .int .i64 0, .int .i64 0, .int .i64 0] 27))) := Lib.hid (by
    have hb : Below w.heap.size w ((w.alloc (.cells #[.int .i64 0, .slice none 0 0, .int .i64 0, .int .i64 0, .int .i64 0] 27)).alloc (.cells #[.int .i64 1, .slice none 0 0, .int .i64 0, .int .i64 0, .int .i64 0] 27)) := ((Below.refl _ _).alloc (Nat.le_refl _) _).alloc (by simp) _
    refine ⟨⟨hb, ?_, by omega, Rd.none_, (fun b off e => by cases e), ?_, by omega, by simp [rpTo, draft], hT.calc_ hb⟩, ?_, by simp; omega, Nat.le_refl _⟩
    · rw [hrb]; exact Blk.new' (by simp)
    · rw [hBe]; exact hc.below hb
    · rw [hXe]; exact (Blk.new _ _ _).alloc _)
  clear hT hc hBe
  go_enter Tryd.func21, Tryd.ntmps21
  go_wp2
  rw [← hrb]
  have HRB := Lib.hid hrb
  have HXE := Lib.hid hXe
  have hpb : w.heap.size < rb := by omega
  have hpn : ¬ w.heap.size = rb := by omega
  have hpn' : ¬ rb = w.heap.size := by omega
  clear hrb hXe
  go_loopw [6, 7, 8] (fun i _ _ wr => ∃ (j : Nat) (A : Option Addr) (n : Nat), j ≤ L.length ∧ i = .int .i64 j ∧ OkT L j ∧ LS X rb w rb (rpTo L j) A n B Ad L wr ∧ (∀ b off, A = some ⟨b, off, none⟩ → b ≠ w.heap.size)) (fun i _ _ _ => L.length - (intOf i).toNat)
  case atStart => exact ⟨0, none, 0, Nat.zero_le _, rfl, (fun i hi => by omega), HLS0.out, (fun b off e => by cases e)⟩
  case round =>
    obtain ⟨j, A, n, hj, rfl, hok, hls, hA0⟩ := hrel
    have HOK := Lib.hid hok
    have HLS := Lib.hid hls
    have HA0 := Lib.hid hA0
    clear hok hls hA0 HLS0
    by_cases hlt : j < L.length
    · obtain ⟨b, off, rfl, hbb, hcell⟩ := HLS.out.st.cmds.all (by omega)
      obtain ⟨e0, e1, e2, e3, e4⟩ := hcell j hlt
      clear hcell
      have x0 := HLS.out.st.box.cell 0
      have x1 := HLS.out.st.box.cell 1
      have x2 := HLS.out.st.box.cell 2
      have x3 := HLS.out.st.box.cell 3
      have x4 := HLS.out.st.box.cell 4
      simp [rpV] at x0 x1 x2 x3 x4
      have HSTEP : Hid (∀ W, LS X rb w rb (rpTo L j) A n B (some ⟨b, off, none⟩) L W → Calls Tryd.prog 17 #[.agg #[.int .i64 (rpTo L j).s, .slice A (rpTo L j).E.length n, .int .i64 (rpTo L j).c.1, .int .i64 (rpTo L j).c.2.1, .int .i64 (rpTo L j).c.2.2], .agg #[.int .i64 (cAt L j).k, .slice (cAt L j).A (cAt L j).F.length (cAt L j).n, .int .i64 (cAt L j).c.1, .int .i64 (cAt L j).c.2.1, .int .i64 (cAt L j).c.2.2]] W (StPost X rb w rb (rpTo L j) A n B (some ⟨b, off, none⟩) L (cAt L j) W)) := Lib.hid (fun W h => h.rstep_ HX.out j hlt)
      have hA1 : Hid ((rpTo L j).E ≠ [] → ∀ b off, A = some ⟨b, off, none⟩ → b < wr.heap.size) := Lib.hid (rd_lt HLS.out.st.rd)
      have hrbw := HLS.out.st.box.lt
      have hhiw := HLS.out.hlt
      have hbw : b < wr.heap.size := by have := HLS.out.st.blt; omega
      have hn1 : ¬ wr.heap.size = rb := by omega
      have hn2 : ¬ rb = wr.heap.size := by omega
      have hn3 : ¬ wr.heap.size = b := by omega
      have hn4 : ¬ b = wr.heap.size := by omega
      generalize hgj : rpTo L j = r at *
      have HGJ := Lib.hid hgj
      clear hgj
      go_upto_region 5 with (fail)
      go_cut [7, 8] (fun a9 a10 wx => NX X rb w rb r A n B (some ⟨b, off, none⟩) L (cAt L j) a9 a10 wx)
      case first =>
        have hk1 : (0 : Int) ≤ (j : Int) := by omega
        have hk2 : (j : Int) < (L.length : Int) := by omega
        go_region_held3 (fun W => W.cell? ⟨rb, 0, none⟩ = some (.int .i64 r.s) ∧ W.cell? ⟨rb, 1, none⟩ = some (.slice A r.E.length n) ∧ W.cell? ⟨rb, 2, none⟩ = some (.int .i64 r.c.1) ∧ W.cell? ⟨rb, 3, none⟩ = some (.int .i64 r.c.2.1) ∧ W.cell? ⟨rb, 4, none⟩ = some (.int .i64 r.c.2.2) ∧ W.cell? ⟨b, off + j * 5, none⟩ = some (.int .i64 (cAt L j).k) ∧ W.cell? ⟨b, off + j * 5 + 1, none⟩ = some (.slice (cAt L j).A (cAt L j).F.length (cAt L j).n) ∧ W.cell? ⟨b, off + j * 5 + 2, none⟩ = some (.int .i64 (cAt L j).c.1) ∧ W.cell? ⟨b, off + j * 5 + 3, none⟩ = some (.int .i64 (cAt L j).c.2.1) ∧ W.cell? ⟨b, off + j * 5 + 4, none⟩ = some (.int .i64 (cAt L j).c.2.2)) (go_keep)
          (first | (go_at_call 17; refine (HSTEP.out _ ?_).mono ?_; (repeat (first | exact HLS.out | apply LS.alloc HX.out | apply LS.drew HX.out)); rintro e w6 ⟨A6, n6, rfl, hb6, hr6, hf6, hl6, hls6⟩; have HLS6 := Lib.hid hls6; have HR6 := Lib.hid hr6; have HF6 := Lib.hid hf6; have HB6 := Lib.hid hb6; have y0 := hls6.st.box.cell 0; have y1 := hls6.st.box.cell 1; have y2 := hls6.st.box.cell 2; have y3 := hls6.st.box.cell 3; have y4 := hls6.st.box.cell 4; (simp [rpV] at y0 y1 y2 y3 y4); have k0 := (bcl (b := b) (o := off + j * 5) hb6 (by first | exact hbw | (simp; omega))); have k1 := (bcl (b := b) (o := off + j * 5 + 1) hb6 (by first | exact hbw | (simp; omega))); have k2 := (bcl (b := b) (o := off + j * 5 + 2) hb6 (by first | exact hbw | (simp; omega))); have k3 := (bcl (b := b) (o := off + j * 5 + 3) hb6 (by first | exact hbw | (simp; omega))); have k4 := (bcl (b := b) (o := off + j * 5 + 4) hb6 (by first | exact hbw | (simp; omega))); (simp [e0, e1, e2, e3, e4, hbw] at k0 k1 k2 k3 k4); (first | (with_reducible have HMB := bx hb6) | (with_reducible have HMB := bx' hb6) | skip); (try (have m0 : w6.cell? ⟨wr.heap.size, 0, none⟩ = some (.int .i64 0) := HMB.cell 0; have m1 : w6.cell? ⟨wr.heap.size, 1, none⟩ = some (.slice none 0 0) := HMB.cell 1; have m2 : w6.cell? ⟨wr.heap.size, 2, none⟩ = some (.int .i64 0) := HMB.cell 2; have m3 : w6.cell? ⟨wr.heap.size, 3, none⟩ = some (.int .i64 0) := HMB.cell 3; have m4 : w6.cell? ⟨wr.heap.size, 4, none⟩ = some (.int .i64 0) := HMB.cell 4; have mf0 : w6.frozen? ⟨wr.heap.size, 0, none⟩ = false := HMB.frozen 0; have mf1 : w6.frozen? ⟨wr.heap.size, 1, none⟩ = false := HMB.frozen 1; have mf2 : w6.frozen? ⟨wr.heap.size, 2, none⟩ = false := HMB.frozen 2; have mf3 : w6.frozen? ⟨wr.heap.size, 3, none⟩ = false := HMB.frozen 3; have mf4 : w6.frozen? ⟨wr.heap.size, 4, none⟩ = false := HMB.frozen 4; have HMH := Lib.hid HMB; clear HMB)); clear hb6 hr6 hf6 hls6))
        all_goals go_wp2_with fail
        all_goals go_meet
        · exact nx_new HX.out HLS6.out HR6.out HF6.out (by simpa using hhiw) hl6 rfl
        · exact nx_old HX.out HLS6.out (fun hE b off e => by have := hA1.out hE b off e; omega) HR6.out HF6.out (by simp; omega) (by simp) hl6 HMH.out hhiw
      case rest =>
        obtain ⟨m, A', n', rfl, rfl, hbm, hmi, hr', hne', hl', hls'⟩ := hcut
        have HLS := Lib.hid hls'
        have HM := Lib.hid hbm
        have HR' := Lib.hid hr'
        have HNE := Lib.hid hne'
        have hrbm : rb < wc.heap.size := hls'.st.box.lt
        clear hbm hr' hne' hls' x0 x1 x2 x3 x4 e0 e1 e2 e3 e4 HSTEP
        have hrm : ¬ rb = m := by have := HLS.out.hle; omega
        have hmr : ¬ m = rb := by have := HLS.out.hle; omega
        have m0 := HM.out.cell 0
        have m1 := HM.out.cell 1
        have m2 := HM.out.cell 2
        have m3 := HM.out.cell 3
        have m4 := HM.out.cell 4
        have x0 := HLS.out.st.box.cell 0
        have x1 := HLS.out.st.box.cell 1
        have x2 := HLS.out.st.box.cell 2
        have x3 := HLS.out.st.box.cell 3
        have x4 := HLS.out.st.box.cell 4
        have f0 := HLS.out.st.box.frozen 0
        have f1 := HLS.out.st.box.frozen 1
        have f2 := HLS.out.st.box.frozen 2
        have f3 := HLS.out.st.box.frozen 3
        have f4 := HLS.out.st.box.frozen 4
        simp [rpV] at m0 m1 m2 m3 m4 x0 x1 x2 x3 x4
        by_cases he : erP r (cAt L j) = 0
        · have HN : Hid (OkT L (j + 1)) := Lib.hid (okT_next HOK.out (by rw [HGJ.out]; exact he))
          have HNX : Hid (stP r (cAt L j) = rpTo L (j + 1)) := Lib.hid (by rw [← HGJ.out]; rfl)
          rw [he]
          have HLN := Lib.hid (HLS.out.next (n' := n') HX.out HR'.out (fun b off e => by have := HNE.out b off e; have := HLS.out.hle; omega) hl')
          clear he
          generalize stP r (cAt L j) = r' at *
          go_wp2
          go_roundw
          case rel => exact ⟨j + 1, A', n', by omega, by go_num, HN.out, by rw [← HNX.out]; exact HLN.out, (fun b off e => by have := HNE.out b off e; omega)⟩
          case measure => simp [intOf]; omega
        · have HI : Hid (RepIs L r j (erP r (cAt L j))) := Lib.hid ⟨hj, HOK.out, HGJ.out.symm, .inr ⟨hlt, by rw [HGJ.out], he⟩⟩
          have hen : (erP r (cAt L j) != 0) = true := by simpa using he
          have HEND := Lib.hid (rep_end0 HI.out HLS.out.st HA0.out)
          have hxp : Blk wc w.heap.size 27 #[.int .i64 0, .slice none 0 0, .int .i64 0, .int .i64 0, .int .i64 0] := by have := HLS.out.ex; rwa [HXE.out] at this
          have y0 := hxp.cell 0
          have y1 := hxp.cell 1
          have y2 := hxp.cell 2
          have y3 := hxp.cell 3
          have y4 := hxp.cell 4
          have g0 := hxp.frozen 0
          have g1 := hxp.frozen 1
          have g2 := hxp.frozen 2
          have g3 := hxp.frozen 3
          have g4 := hxp.frozen 4
          simp at y0 y1 y2 y3 y4
          clear he hxp
          generalize erP r (cAt L j) = er at *
          generalize stP r (cAt L j) = r' at *
          go_wp2
          exact bodyPost_ret (v := .tuple #[.agg #[.int .i64 r.s, .slice A r.E.length n, .int .i64 r.c.1, .int .i64 r.c.2.1, .int .i64 r.c.2.2], .int .i64 (j : Int), .int .i64 er]) (by simp [results, Tryd.results21, go_sem, y0, y1, y2, y3, y4]) rfl HEND.out
    · obtain rfl : j = L.length := by omega
      have HI : Hid (RepIs L (rpTo L L.length) L.length 0) := Lib.hid ⟨Nat.le_refl _, HOK.out, rfl, .inl ⟨rfl, rfl⟩⟩
      have HEND := Lib.hid (rep_end0 HI.out HLS.out.st HA0.out)
      have hxp : Blk wr w.heap.size 27 #[.int .i64 0, .slice none 0 0, .int .i64 0, .int .i64 0, .int .i64 0] := by have := HLS.out.ex; rwa [HXE.out] at this
      have x0 := HLS.out.st.box.cell 0
      have x1 := HLS.out.st.box.cell 1
      have x2 := HLS.out.st.box.cell 2
      have x3 := HLS.out.st.box.cell 3
      have x4 := HLS.out.st.box.cell 4
      have y0 := hxp.cell 0
      have y1 := hxp.cell 1
      have y2 := hxp.cell 2
      have y3 := hxp.cell 3
      have y4 := hxp.cell 4
      have g0 := hxp.frozen 0
      have g1 := hxp.frozen 1
      have g2 := hxp.frozen 2
      have g3 := hxp.frozen 3
      have g4 := hxp.frozen 4
      simp [rpV] at x0 x1 x2 x3 x4 y0 y1 y2 y3 y4
      clear hxp
      generalize rpTo L L.length = r at *
      go_wp2
      exact bodyPost_ret (v := .tuple #[.agg #[.int .i64 r.s, .slice A r.E.length n, .int .i64 r.c.1, .int .i64 r.c.2.1, .int .i64 r.c.2.2], .int .i64 (L.length : Int), .int .i64 0]) (by simp [results, Tryd.results21, go_sem, y0, y1, y2, y3, y4]) rfl HEND.out
end Go.Proofs.YtolkdidcmingkaaDoor
