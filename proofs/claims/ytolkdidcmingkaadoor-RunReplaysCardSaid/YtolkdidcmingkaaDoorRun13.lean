/-
  Chapter 40: the walk of the law RunReplays.
-/
import Derived.Test.YtolkdidcmingkaaDoorRun12
import Derived.Test.YtolkdidcmingkaaDoorOpen
namespace Go.Proofs.YtolkdidcmingkaaDoor
open Go.RowKit
set_option linter.unusedVariables false
set_option linter.unusedSimpArgs false

theorem rep_same {L : List CV} {r : RP} {n j : Nat} {er : Int} (h : RepIs L r n er) (hj : j ≤ L.length) (hok : OkT L j) : (erP (rpTo L j) (cAt L j) ≠ 0 → j < L.length → n = j ∧ er = erP (rpTo L j) (cAt L j) ∧ r = rpTo L j) ∧ (j = L.length → n = j ∧ er = 0 ∧ r = rpTo L j) := by
  obtain ⟨h1, h2, h3, h4⟩ := h
  have hle : ¬ n < j := fun hlt => by
    rcases h4 with ⟨e1, e2⟩ | ⟨e1, e2, e3⟩
    · omega
    · have := hok n hlt; omega
  refine ⟨fun he hlt => ?_, fun he => ?_⟩
  · have : n = j := by
      by_cases hc : j < n
      · exact absurd (h2 j hc) he
      · omega
    subst this
    rcases h4 with ⟨e1, e2⟩ | ⟨e1, e2, e3⟩
    · omega
    · exact ⟨rfl, e2, h3⟩
  · have : n = j := by omega
    subst this
    rcases h4 with ⟨e1, e2⟩ | ⟨e1, e2, e3⟩
    · exact ⟨rfl, e2, h3⟩
    · omega
/-- what stays: the replayed run -/
def XP (pb : Nat) (p : RP) (A : Option Addr) (n : Nat) (W : World) : Prop := Blk W pb 27 (rpV p A n) ∧ RdI W pb A p.E
theorem xp_stable {pb rb n : Nat} {p : RP} {A : Option Addr} (h : pb < rb) : Stable (XP pb p A n) rb rb := by
  refine ⟨fun W W' hx hb => ⟨hx.1.below hb hx.1.lt, hx.2.below (hb.mono (Nat.le_of_lt hx.1.lt))⟩, fun g W W' hg hx ho => ?_⟩
  have hg' : pb < g := by omega
  exact ⟨hx.1.grown ho (by intro e; injection e; omega), hx.2.below (ho.below (Nat.le_of_lt hx.1.lt) (Nat.le_of_lt hg'))⟩

set_option maxHeartbeats 6400000 in
set_option maxRecDepth 100000 in
theorem runReplays_walk (A0 : Option Addr) (c0 : Nat) (l0 : List Int) (w : World) (hT : Tab w) (hr0 : RdI w w.heap.size A0 l0) (hl0 : l0.length ≤ 9223372036854775807) :
    Calls Tryd.prog 4 #[.slice A0 l0.length c0] w (RetB true w) := by
  have HBR := Lib.hid (law_cmds A0 c0 12 l0 w (by omega) hr0 hl0 hT)
  clear hr0
  go_enter Tryd.func4, Tryd.ntmps4
  go_wp2_with fail
  refine HBR.out.mono ?_
  rintro e w1 ⟨rfl, hbr⟩
  have HBR := Lib.hid hbr
  clear hbr
  go_wp2_with fail
  refine HBR.out.mono ?_
  rintro e w2 ⟨Ad, cd, L, rfl, hL, hc, hb2, hT2⟩
  have HC := Lib.hid hc
  have HB2 := Lib.hid hb2
  have HT2 := Lib.hid hT2
  clear hc hb2 hT2 HBR hT
  go_wp2_with fail
  refine (replay_any Ad cd L _ HT2.out HC.out (by omega)).mono ?_
  rintro e w3 ⟨p, np, ep, Ap, cp, hI, rfl, hb3, hrp, hlp⟩
  have HI := Lib.hid hI
  have HB3 := Lib.hid (HB2.out.trans (hb3.mono HB2.out.size))
  have hs3 := hb3.size
  have hw2 := HB2.out.size
  have hnp : np ≤ 12 := by have := hI.1; omega
  obtain ⟨B, hBe⟩ : ∃ B, B = w2.heap.size := ⟨_, rfl⟩
  obtain ⟨rb, hrb⟩ : ∃ rb, rb = w3.heap.size + 1 := ⟨_, rfl⟩
  obtain ⟨X, hXe⟩ : ∃ X, X = XP w3.heap.size p Ap cp := ⟨_, rfl⟩
  have HX : Hid (Stable X rb rb) := Lib.hid (by rw [hXe]; exact xp_stable (by omega))
  have HLS0 : Hid (LS X rb w rb (rpTo L 0) none 0 B Ad L ((w3.alloc (.cells #[.int .i64 p.s, .slice Ap p.E.length cp, .int .i64 p.c.1, .int .i64 p.c.2.1, .int .i64 p.c.2.2] 27)).alloc (.cells #[.int .i64 1, .slice none 0 0, .int .i64 0, .int .i64 0, .int .i64 0] 27))) := Lib.hid (by
    have hb : Below w3.heap.size w3 ((w3.alloc (.cells #[.int .i64 p.s, .slice Ap p.E.length cp, .int .i64 p.c.1, .int .i64 p.c.2.1, .int .i64 p.c.2.2] 27)).alloc (.cells #[.int .i64 1, .slice none 0 0, .int .i64 0, .int .i64 0, .int .i64 0] 27)) := ((Below.refl _ _).alloc (Nat.le_refl _) _).alloc (by simp) _
    have hT3 : Tab w3 := HT2.out.calc_ hb3
    refine ⟨⟨HB3.out.trans (hb.mono HB3.out.size), ?_, by omega, Rd.none_, (fun b off e => by cases e), ?_, by omega, by simp [rpTo, draft], hT3.calc_ hb⟩, ?_, by simp; omega, Nat.le_refl _⟩
    · rw [hrb]; exact Blk.new' (by simp)
    · rw [hBe]; exact (HC.out.below hb3).below (hb.mono hs3)
    · rw [hXe]; exact ⟨(Blk.new _ _ _).alloc _, hrp.below hb⟩)
  clear hI hb3 hrp HC HT2 HB2 hBe
  go_wp2
  rw [← hrb]
  have HRB := Lib.hid hrb
  have HXE := Lib.hid hXe
  have hpb : w3.heap.size < rb := by omega
  clear hrb hXe
  go_loopw [8, 9, 10] (fun i _ _ wr => ∃ (j : Nat) (A : Option Addr) (n : Nat), j ≤ L.length ∧ i = .int .i64 j ∧ OkT L j ∧ LS X rb w rb (rpTo L j) A n B Ad L wr) (fun i _ _ _ => L.length - (intOf i).toNat)
  case atStart => exact ⟨0, none, 0, Nat.zero_le _, rfl, (fun i hi => by omega), HLS0.out⟩
  case round =>
    obtain ⟨j, A, n, hj, rfl, hok, hls⟩ := hrel
    have HOK := Lib.hid hok
    have HLS := Lib.hid hls
    clear hok hls HLS0
    by_cases hlt : j < L.length
    · obtain ⟨b, off, rfl, hbb, hcell⟩ := HLS.out.st.cmds.all (by omega)
      obtain ⟨e0, e1, e2, e3, e4⟩ := hcell j hlt
      clear hcell
      have x0 := HLS.out.st.box.cell 0
      have x1 := HLS.out.st.box.cell 1
      have x2 := HLS.out.st.box.cell 2
      have x3 := HLS.out.st.box.cell 3
      have x4 := HLS.out.st.box.cell 4
      simp [rpV] at x0 x1 x2 x3 x4
      have HSTEP : Hid (∀ W, LS X rb w rb (rpTo L j) A n B (some ⟨b, off, none⟩) L W → Calls Tryd.prog 10 #[.agg #[.int .i64 (rpTo L j).s, .slice A (rpTo L j).E.length n, .int .i64 (rpTo L j).c.1, .int .i64 (rpTo L j).c.2.1, .int .i64 (rpTo L j).c.2.2], .agg #[.int .i64 (cAt L j).k, .slice (cAt L j).A (cAt L j).F.length (cAt L j).n, .int .i64 (cAt L j).c.1, .int .i64 (cAt L j).c.2.1, .int .i64 (cAt L j).c.2.2]] W (StPost X rb w rb (rpTo L j) A n B (some ⟨b, off, none⟩) L (cAt L j) W)) := Lib.hid (fun W h => h.step_ HX.out j hlt)
      have hA1 : Hid ((rpTo L j).E ≠ [] → ∀ b off, A = some ⟨b, off, none⟩ → b < wr.heap.size) := Lib.hid (rd_lt HLS.out.st.rd)
      have hrbw := HLS.out.st.box.lt
      have hhiw := HLS.out.hlt
      have hbw : b < wr.heap.size := by have := HLS.out.st.blt; omega
      have hn1 : ¬ wr.heap.size = rb := by omega
      have hn2 : ¬ rb = wr.heap.size := by omega
      have hn3 : ¬ wr.heap.size = b := by omega
      have hn4 : ¬ b = wr.heap.size := by omega
      generalize hgj : rpTo L j = r at *
      have HGJ := Lib.hid hgj
      clear hgj
      go_upto_region 7 with (fail)
      go_cut [9, 10] (fun a9 a10 wx => NX X rb w rb r A n B (some ⟨b, off, none⟩) L (cAt L j) a9 a10 wx)
      case first =>
        have hk1 : (0 : Int) ≤ (j : Int) := by omega
        have hk2 : (j : Int) < (L.length : Int) := by omega
        go_region_held3 (fun W => W.cell? ⟨rb, 0, none⟩ = some (.int .i64 r.s) ∧ W.cell? ⟨rb, 1, none⟩ = some (.slice A r.E.length n) ∧ W.cell? ⟨rb, 2, none⟩ = some (.int .i64 r.c.1) ∧ W.cell? ⟨rb, 3, none⟩ = some (.int .i64 r.c.2.1) ∧ W.cell? ⟨rb, 4, none⟩ = some (.int .i64 r.c.2.2) ∧ W.cell? ⟨b, off + j * 5, none⟩ = some (.int .i64 (cAt L j).k) ∧ W.cell? ⟨b, off + j * 5 + 1, none⟩ = some (.slice (cAt L j).A (cAt L j).F.length (cAt L j).n) ∧ W.cell? ⟨b, off + j * 5 + 2, none⟩ = some (.int .i64 (cAt L j).c.1) ∧ W.cell? ⟨b, off + j * 5 + 3, none⟩ = some (.int .i64 (cAt L j).c.2.1) ∧ W.cell? ⟨b, off + j * 5 + 4, none⟩ = some (.int .i64 (cAt L j).c.2.2)) (go_keep)
          (first | (go_at_call 10; refine (HSTEP.out _ ?_).mono ?_; (repeat (first | exact HLS.out | apply LS.alloc HX.out | apply LS.drew HX.out)); rintro e w6 ⟨A6, n6, rfl, hb6, hr6, hf6, hl6, hls6⟩; have HLS6 := Lib.hid hls6; have HR6 := Lib.hid hr6; have HF6 := Lib.hid hf6; have HB6 := Lib.hid hb6; have y0 := hls6.st.box.cell 0; have y1 := hls6.st.box.cell 1; have y2 := hls6.st.box.cell 2; have y3 := hls6.st.box.cell 3; have y4 := hls6.st.box.cell 4; (simp [rpV] at y0 y1 y2 y3 y4); have k0 := (bcl (b := b) (o := off + j * 5) hb6 (by first | exact hbw | (simp; omega))); have k1 := (bcl (b := b) (o := off + j * 5 + 1) hb6 (by first | exact hbw | (simp; omega))); have k2 := (bcl (b := b) (o := off + j * 5 + 2) hb6 (by first | exact hbw | (simp; omega))); have k3 := (bcl (b := b) (o := off + j * 5 + 3) hb6 (by first | exact hbw | (simp; omega))); have k4 := (bcl (b := b) (o := off + j * 5 + 4) hb6 (by first | exact hbw | (simp; omega))); (simp [e0, e1, e2, e3, e4, hbw] at k0 k1 k2 k3 k4); (first | (with_reducible have HMB := bx hb6) | (with_reducible have HMB := bx' hb6) | skip); (try (have m0 : w6.cell? ⟨wr.heap.size, 0, none⟩ = some (.int .i64 0) := HMB.cell 0; have m1 : w6.cell? ⟨wr.heap.size, 1, none⟩ = some (.slice none 0 0) := HMB.cell 1; have m2 : w6.cell? ⟨wr.heap.size, 2, none⟩ = some (.int .i64 0) := HMB.cell 2; have m3 : w6.cell? ⟨wr.heap.size, 3, none⟩ = some (.int .i64 0) := HMB.cell 3; have m4 : w6.cell? ⟨wr.heap.size, 4, none⟩ = some (.int .i64 0) := HMB.cell 4; have mf0 : w6.frozen? ⟨wr.heap.size, 0, none⟩ = false := HMB.frozen 0; have mf1 : w6.frozen? ⟨wr.heap.size, 1, none⟩ = false := HMB.frozen 1; have mf2 : w6.frozen? ⟨wr.heap.size, 2, none⟩ = false := HMB.frozen 2; have mf3 : w6.frozen? ⟨wr.heap.size, 3, none⟩ = false := HMB.frozen 3; have mf4 : w6.frozen? ⟨wr.heap.size, 4, none⟩ = false := HMB.frozen 4; have HMH := Lib.hid HMB; clear HMB)); clear hb6 hr6 hf6 hls6))
        all_goals go_wp2_with fail
        all_goals go_meet
        · exact nx_new HX.out HLS6.out HR6.out HF6.out (by simpa using hrbw) hl6 rfl
        · exact nx_old HX.out HLS6.out (fun hE b off e => by have := hA1.out hE b off e; omega) HR6.out HF6.out (by simp; omega) (by simp) hl6 HMH.out hhiw
      case rest =>
        obtain ⟨m, A', n', rfl, rfl, hbm, hmi, hr', hne', hl', hls'⟩ := hcut
        have HLS := Lib.hid hls'
        have HM := Lib.hid hbm
        have HR' := Lib.hid hr'
        have HNE := Lib.hid hne'
        have hrbm : rb < wc.heap.size := hls'.st.box.lt
        clear hbm hr' hne' hls' x0 x1 x2 x3 x4 e0 e1 e2 e3 e4 HSTEP
        have hrm : ¬ rb = m := by have := HLS.out.hle; omega
        have hmr : ¬ m = rb := by have := HLS.out.hle; omega
        by_cases he : erP r (cAt L j) = 0
        · have HN : Hid (OkT L (j + 1)) := Lib.hid (okT_next HOK.out (by rw [HGJ.out]; exact he))
          have HNX : Hid (stP r (cAt L j) = rpTo L (j + 1)) := Lib.hid (by rw [← HGJ.out]; rfl)
          rw [he]
          have HLN := Lib.hid (HLS.out.next (n' := n') HX.out HR'.out HNE.out hl')
          have m0 := HM.out.cell 0
          have m1 := HM.out.cell 1
          have m2 := HM.out.cell 2
          have m3 := HM.out.cell 3
          have m4 := HM.out.cell 4
          have x0 := HLS.out.st.box.cell 0
          have x1 := HLS.out.st.box.cell 1
          have x2 := HLS.out.st.box.cell 2
          have x3 := HLS.out.st.box.cell 3
          have x4 := HLS.out.st.box.cell 4
          have f0 := HLS.out.st.box.frozen 0
          have f1 := HLS.out.st.box.frozen 1
          have f2 := HLS.out.st.box.frozen 2
          have f3 := HLS.out.st.box.frozen 3
          have f4 := HLS.out.st.box.frozen 4
          simp [rpV] at m0 m1 m2 m3 m4 x0 x1 x2 x3 x4
          clear he
          generalize stP r (cAt L j) = r' at *
          go_wp2
          go_roundw
          case rel => exact ⟨j + 1, A', n', by omega, by go_num, HN.out, by rw [← HNX.out]; exact HLN.out⟩
          case measure => simp [intOf]; omega
        · obtain ⟨q1, q2, q3⟩ := (rep_same HI.out hj HOK.out).1 (by rw [HGJ.out]; exact he) hlt
          obtain rfl : p = r := q3.trans HGJ.out
          have t0 : (erP p (cAt L j) != 0) = true := by simpa using he
          have t1 : (ep == erP p (cAt L j)) = true := by rw [q2, HGJ.out]; simp
          have t2 : ((np : Int) == (j : Int)) = true := by rw [q1]; simp
          have t2' : (np == j) = true := by rw [q1]; simp
          have hxp : XP w3.heap.size p Ap cp wc := by have := HLS.out.ex; rwa [HXE.out] at this
          have HSM := Lib.hid (same_eq p.s p.c.1 p.c.2.1 p.c.2.2 p.E Ap A cp n wc (Rd.more hxp.2 (Nat.le_of_lt hxp.1.lt)) HLS.out.st.rd (by have := HLS.out.st.len; omega))
          have p0 := hxp.1.cell 0
          have p1 := hxp.1.cell 1
          have p2 := hxp.1.cell 2
          have p3 := hxp.1.cell 3
          have p4 := hxp.1.cell 4
          have x0 := HLS.out.st.box.cell 0
          have x1 := HLS.out.st.box.cell 1
          have x2 := HLS.out.st.box.cell 2
          have x3 := HLS.out.st.box.cell 3
          have x4 := HLS.out.st.box.cell 4
          simp [rpV] at p0 p1 p2 p3 p4 x0 x1 x2 x3 x4
          clear q1 q2 q3 he hxp
          generalize erP p (cAt L j) = er at *
          go_wp2_with fail
          refine HSM.out.mono ?_
          rintro e w7 ⟨rfl, hb7⟩
          have HLS := Lib.hid (HLS.out.calc_ HX.out hb7)
          clear hb7
          go_wp2_with fail
          refine (awake_any _ HLS.out.st.tab).mono ?_
          rintro e w8 ⟨rfl, hb8⟩
          have HLS := Lib.hid (HLS.out.calc_ HX.out hb8)
          clear hb8
          go_wp2
          go_ret
          exact ⟨rfl, HLS.out.st.below⟩
    · obtain ⟨q1, q2, q3⟩ := (rep_same HI.out hj HOK.out).2 (by omega)
      obtain rfl : j = L.length := by omega
      have t1 : (ep == 0) = true := by rw [q2]; simp
      have t2 : ((np : Int) == (L.length : Int)) = true := by rw [q1]; simp
      have t2' : (np == L.length) = true := by rw [q1]; simp
      have hxp : XP w3.heap.size p Ap cp wr := by have := HLS.out.ex; rwa [HXE.out] at this
      generalize hgj : rpTo L L.length = r at *
      obtain rfl : p = r := q3
      have HSM := Lib.hid (same_eq p.s p.c.1 p.c.2.1 p.c.2.2 p.E Ap A cp n wr (Rd.more hxp.2 (Nat.le_of_lt hxp.1.lt)) HLS.out.st.rd (by have := HLS.out.st.len; omega))
      have p0 := hxp.1.cell 0
      have p1 := hxp.1.cell 1
      have p2 := hxp.1.cell 2
      have p3 := hxp.1.cell 3
      have p4 := hxp.1.cell 4
      have x0 := HLS.out.st.box.cell 0
      have x1 := HLS.out.st.box.cell 1
      have x2 := HLS.out.st.box.cell 2
      have x3 := HLS.out.st.box.cell 3
      have x4 := HLS.out.st.box.cell 4
      simp [rpV] at p0 p1 p2 p3 p4 x0 x1 x2 x3 x4
      clear q1 q2 hxp hgj
      go_wp2_with fail
      refine HSM.out.mono ?_
      rintro e w7 ⟨rfl, hb7⟩
      have HLS := Lib.hid (HLS.out.calc_ HX.out hb7)
      clear hb7
      go_wp2_with fail
      refine (awake_any _ HLS.out.st.tab).mono ?_
      rintro e w8 ⟨rfl, hb8⟩
      have HLS := Lib.hid (HLS.out.calc_ HX.out hb8)
      clear hb8
      go_wp2
      go_ret
      exact ⟨rfl, HLS.out.st.below⟩
end Go.Proofs.YtolkdidcmingkaaDoor
