/-
  Chapter 40: contract of run.Replay.
-/
import Derived.Test.YtolkdidcmingkaaDoorRun7
namespace Go.Proofs.YtolkdidcmingkaaDoor
open Go.RowKit
set_option linter.unusedVariables false
set_option linter.unusedSimpArgs false

noncomputable def rpTo (L : List CV) : Nat → RP
  | 0 => draft
  | j + 1 => stP (rpTo L j) (cAt L j)
def OkT (L : List CV) (j : Nat) : Prop := ∀ i, i < j → erP (rpTo L i) (cAt L i) = 0
theorem okT_next {L : List CV} {j : Nat} (h : OkT L j) (he : erP (rpTo L j) (cAt L j) = 0) : OkT L (j + 1) := fun i hi => by
  by_cases e : i = j
  · subst e; exact he
  · exact h i (by omega)
/-- the result of a replay -/
def RepIs (L : List CV) (r : RP) (n : Nat) (er : Int) : Prop := n ≤ L.length ∧ OkT L n ∧ r = rpTo L n ∧ ((n = L.length ∧ er = 0) ∨ (n < L.length ∧ er = erP (rpTo L n) (cAt L n) ∧ er ≠ 0))
def RepPost (L : List CV) (w : World) (e : Ending) (w' : World) : Prop :=
  ∃ r n er A c, RepIs L r n er ∧ e = .returned (.tuple #[.agg (rpV r A c), .int .i64 (n : Int), .int .i64 er]) ∧ Below w.heap.size w w' ∧ RdI w' w'.heap.size A r.E ∧ r.E.length ≤ 100000
section
variable {w W W' : World} {rb n B : Nat} {r : RP} {A Ad : Option Addr} {L : List CV}
theorem ST.next (h : ST w rb r A n B Ad L W) {r' : RP} {A' : Option Addr} {n' : Nat} (hr : RdI W W.heap.size A' r'.E) (hne : ∀ b off, A' = some ⟨b, off, none⟩ → b ≠ rb) (hl : r'.E.length ≤ 100000) :
    ST w rb r' A' n' B Ad L (put5 W rb (.int .i64 r'.s) (.slice A' r'.E.length n') (.int .i64 r'.c.1) (.int .i64 r'.c.2.1) (.int .i64 r'.c.2.2)) := by
  have ho := put5_only W rb (.int .i64 r'.s) (.slice A' r'.E.length n') (.int .i64 r'.c.1) (.int .i64 r'.c.2.1) (.int .i64 r'.c.2.2)
  have h1 := h.ge
  have h2 := h.bl
  have h5 := h.box.lt
  have h6 := h.below.size
  refine ⟨below_only h.below ho h.ge, ?_, h.ge, rd_only hr ho hne, hne, h.cmds.below (ho.below (by omega) h.bl), h.bl, hl, ?_⟩
  · have := ((((h.box.set_ 0 (.int .i64 r'.s)).set_ 1 (.slice A' r'.E.length n')).set_ 2 (.int .i64 r'.c.1)).set_ 3 (.int .i64 r'.c.2.1)).set_ 4 (.int .i64 r'.c.2.2)
    simpa [rpV, put5] using this
  · obtain ⟨t, fr, ht⟩ := h.tab
    by_cases e0 : rb = 0
    · have hb := h.box
      unfold Blk at hb
      rw [e0, ht] at hb
      injection hb with hb
      injection hb with hb
      have := congrArg Array.size hb
      simp [tabV, rpV] at this
    · exact ⟨t, fr, (ho.block _ h.tab.lt (by intro e; injection e with e; exact e0 e.symm)).trans ht⟩
end

/-- a step's result: what the contract of Step says, in one word -/
theorem StepPost.open_ {r : RP} {x : CV} {w w' : World} {e : Ending} (h : StepPost r.s r.E r.c x.k x.F x.c w e w') :
    ∃ A n, e = .returned (.tuple #[.agg #[.int .i64 (stP r x).s, .slice A (stP r x).E.length n, .int .i64 (stP r x).c.1, .int .i64 (stP r x).c.2.1, .int .i64 (stP r x).c.2.2], .int .i64 (erP r x)]) ∧ Below w.heap.size w w' ∧ RdI w' w'.heap.size A (stP r x).E ∧ ∀ b off, A = some ⟨b, off, none⟩ → w.heap.size ≤ b := h
theorem put5_alloc_blk {W : World} {g rb : Nat} {t : TypeId} {cs : Array Value} (h : Blk W g t cs) (hne : g ≠ rb) (a b c d e : Value) (o : Obj) : Blk ((put5 W rb a b c d e).alloc o) g t cs :=
  (h.grown (put5_only W rb a b c d e) (by intro e; injection e with e; exact hne e)).alloc o

theorem rep_end0 {L : List CV} {r : RP} {j n B rb : Nat} {er : Int} {A Ad : Option Addr} {w W : World} (hI : RepIs L r j er) (h : ST w rb r A n B Ad L W) (hA : ∀ b off, A = some ⟨b, off, none⟩ → b ≠ w.heap.size) :
    RepPost L w (.returned (.tuple #[.agg #[.int .i64 r.s, .slice A r.E.length n, .int .i64 r.c.1, .int .i64 r.c.2.1, .int .i64 r.c.2.2], .int .i64 (j : Int), .int .i64 er])) (put5 W w.heap.size (.int .i64 r.s) (.slice A r.E.length n) (.int .i64 r.c.1) (.int .i64 r.c.2.1) (.int .i64 r.c.2.2)) :=
  ⟨r, j, er, A, n, hI, rfl, below_only h.below (put5_only _ _ _ _ _ _ _) (Nat.le_refl _), rd_only h.rd (put5_only _ _ _ _ _ _ _) hA, h.len⟩
theorem rep_end {L : List CV} {r : RP} {j n B rb : Nat} {er : Int} {A Ad : Option Addr} {w W : World} (hI : RepIs L r j er) (h : ST w rb r A n B Ad L W) (hA : ∀ b off, A = some ⟨b, off, none⟩ → b ≠ w.heap.size) (o : Obj) :
    RepPost L w (.returned (.tuple #[.agg #[.int .i64 r.s, .slice A r.E.length n, .int .i64 r.c.1, .int .i64 r.c.2.1, .int .i64 r.c.2.2], .int .i64 (j : Int), .int .i64 er])) ((put5 W w.heap.size (.int .i64 r.s) (.slice A r.E.length n) (.int .i64 r.c.1) (.int .i64 r.c.2.1) (.int .i64 r.c.2.2)).alloc o) := by
  obtain ⟨r1, j1, er1, A1, n1, h1, h2, h3, h4, h5⟩ := rep_end0 hI h hA
  exact ⟨r1, j1, er1, A1, n1, h1, h2, h3.alloc h3.size o, Rd.more (h4.below ((Below.refl _ _).alloc (Nat.le_refl _) o)) (by simp), h5⟩

set_option maxHeartbeats 3200000 in
theorem replay_any (Ad : Option Addr) (cp : Nat) (L : List CV) (w : World) (hT : Tab w) (hc : RdC w w.heap.size Ad L) (hL : L.length ≤ 100) :
    Calls Tryd.prog 15 #[.slice Ad L.length cp] w (RepPost L w) := by
  have HST0 : Hid (ST w (w.heap.size + 1) (rpTo L 0) none 0 w.heap.size Ad L ((w.alloc (.cells #[.int .i64 0, .slice none 0 0, .int .i64 0, .int .i64 0, .int .i64 0] 27)).alloc (.cells #[.int .i64 1, .slice none 0 0, .int .i64 0, .int .i64 0, .int .i64 0] 27))) := Lib.hid (by
    have hb : Below w.heap.size w ((w.alloc (.cells #[.int .i64 0, .slice none 0 0, .int .i64 0, .int .i64 0, .int .i64 0] 27)).alloc (.cells #[.int .i64 1, .slice none 0 0, .int .i64 0, .int .i64 0, .int .i64 0] 27)) := ((Below.refl _ _).alloc (Nat.le_refl _) _).alloc (by simp) _
    exact ⟨hb, Blk.new' (by simp), by omega, Rd.none_, (fun b off e => by cases e), hc.below hb, by omega, by simp [rpTo, draft], hT.below hb hT.lt⟩)
  have HR0 : Hid (Blk ((w.alloc (.cells #[.int .i64 0, .slice none 0 0, .int .i64 0, .int .i64 0, .int .i64 0] 27)).alloc (.cells #[.int .i64 1, .slice none 0 0, .int .i64 0, .int .i64 0, .int .i64 0] 27)) w.heap.size 27 #[.int .i64 0, .slice none 0 0, .int .i64 0, .int .i64 0, .int .i64 0]) := Lib.hid ((Blk.new _ _ _).alloc _)
  have HFL : Hid (∀ x ∈ L, x.F.length ≤ 100000) := Lib.hid (fun x hx => (hc.2 x hx).2)
  clear hT hc
  go_enter Tryd.func15, Tryd.ntmps15
  go_wp2
  go_loopw [13, 6, 7, 8, 9] (fun i _ _ _ _ wr => ∃ (j : Nat) (A : Option Addr) (n : Nat), j ≤ L.length ∧ i = .int .i64 j ∧ OkT L j ∧ ST w (w.heap.size + 1) (rpTo L j) A n w.heap.size Ad L wr ∧ (∀ b off, A = some ⟨b, off, none⟩ → b ≠ w.heap.size) ∧ Blk wr w.heap.size 27 #[.int .i64 0, .slice none 0 0, .int .i64 0, .int .i64 0, .int .i64 0]) (fun i _ _ _ _ _ => L.length - (intOf i).toNat)
  case atStart => exact ⟨0, none, 0, Nat.zero_le _, rfl, (fun i hi => by omega), HST0.out, (fun b off e => by cases e), HR0.out⟩
  case round =>
    obtain ⟨j, A, n, hj, rfl, hok, hst, hA0, hr0⟩ := hrel
    have HA0 := Lib.hid hA0
    clear hA0
    have HOK := Lib.hid hok
    have HST := Lib.hid hst
    have HR := Lib.hid hr0
    have hlt1 := hst.box.lt
    clear hok hst hr0 HST0 HR0
    by_cases hlt : j < L.length
    · obtain ⟨b, off, rfl, hbb, hcell⟩ := HST.out.cmds.all (by omega)
      obtain ⟨e0, e1, e2, e3, e4⟩ := hcell j hlt
      clear hcell
      have x0 := HST.out.box.cell 0
      have x1 := HST.out.box.cell 1
      have x2 := HST.out.box.cell 2
      have x3 := HST.out.box.cell 3
      have x4 := HST.out.box.cell 4
      simp [rpV] at x0 x1 x2 x3 x4
      have HOKN : Hid (erP (rpTo L j) (cAt L j) = 0 → OkT L (j + 1)) := Lib.hid (okT_next HOK.out)
      have HLen : Hid ((stP (rpTo L j) (cAt L j)).E.length ≤ 100000) := Lib.hid (stL_len _ _ HST.out.len (HFL.out _ (cAt_mem L j hlt)))
      have HNX : Hid (stP (rpTo L j) (cAt L j) = rpTo L (j + 1)) := Lib.hid rfl
      have HIS : Hid (erP (rpTo L j) (cAt L j) ≠ 0 → RepIs L (rpTo L j) j (erP (rpTo L j) (cAt L j))) := Lib.hid (fun h => ⟨hj, HOK.out, rfl, .inr ⟨hlt, rfl, h⟩⟩)
      have hb1 : b < wr.heap.size := by omega
      go_wp2_with fail
      refine ((HST.out.alloc _).step_ j hlt).mono ?_
      intro e w1 hsp
      obtain ⟨A', n', rfl, hb, hr', hf⟩ := hsp.open_
      have HST1 := Lib.hid ((HST.out.alloc _).calc_ hb)
      have HR1 := Lib.hid ((HR.out.alloc _).below hb (by have := HR.out.lt; simp; omega))
      have HRD := Lib.hid hr'
      have HF : Hid (∀ b off, A' = some ⟨b, off, none⟩ → b ≠ w.heap.size + 1 ∧ b ≠ w.heap.size) := Lib.hid (fun b off e => by have := hf b off e; simp at this; omega)
      have hs1 := HST1.out.box.lt
      clear hsp hb hr' hf e0 e1 e2 e3 e4 x0 x1 x2 x3 x4 HST
      have x0 := HST1.out.box.cell 0
      have x1 := HST1.out.box.cell 1
      have x2 := HST1.out.box.cell 2
      have x3 := HST1.out.box.cell 3
      have x4 := HST1.out.box.cell 4
      have f0 := HST1.out.box.frozen 0
      have f1 := HST1.out.box.frozen 1
      have f2 := HST1.out.box.frozen 2
      have f3 := HST1.out.box.frozen 3
      have f4 := HST1.out.box.frozen 4
      simp [rpV] at x0 x1 x2 x3 x4
      have hq0 : w.heap.size < w1.heap.size := by omega
      by_cases he : erP (rpTo L j) (cAt L j) = 0
      · have HN := Lib.hid (HOKN.out he)
        have HST2 := Lib.hid (HST1.out.next (n' := n') HRD.out (fun b off e => (HF.out b off e).1) HLen.out)
        have HR2 := Lib.hid (fun a b c d e o => put5_alloc_blk (rb := w.heap.size + 1) HR1.out (by omega) a b c d e o)
        rw [he]
        clear he HOKN HIS
        generalize stP (rpTo L j) (cAt L j) = r' at *
        go_wp2
        go_roundw
        case rel => exact ⟨j + 1, A', n', by omega, by go_num, HN.out, by rw [← HNX.out]; exact HST2.out.alloc _, (fun b off e => (HF.out b off e).2), HR2.out _ _ _ _ _ _⟩
        case measure => simp [intOf]; omega
      · have hen : (erP (rpTo L j) (cAt L j) != 0) = true := by simpa using he
        have HI := Lib.hid (HIS.out he)
        clear he HOKN HIS
        generalize erP (rpTo L j) (cAt L j) = er at *
        have HEND := Lib.hid (fun o => rep_end HI.out HST1.out HA0.out o)
        have y0 := HR1.out.cell 0
        have y1 := HR1.out.cell 1
        have y2 := HR1.out.cell 2
        have y3 := HR1.out.cell 3
        have y4 := HR1.out.cell 4
        have g0 := HR1.out.frozen 0
        have g1 := HR1.out.frozen 1
        have g2 := HR1.out.frozen 2
        have g3 := HR1.out.frozen 3
        have g4 := HR1.out.frozen 4
        simp at y0 y1 y2 y3 y4
        generalize rpTo L j = r at *
        generalize stP r (cAt L j) = r' at *
        go_wp2
        exact bodyPost_ret (v := .tuple #[.agg #[.int .i64 r.s, .slice A r.E.length n, .int .i64 r.c.1, .int .i64 r.c.2.1, .int .i64 r.c.2.2], .int .i64 (j : Int), .int .i64 er]) (by simp [results, Tryd.results15, go_sem, y0, y1, y2, y3, y4, hq0]) rfl (HEND.out _)
    · obtain rfl : j = L.length := by omega
      have HI : Hid (RepIs L (rpTo L L.length) L.length 0) := Lib.hid ⟨Nat.le_refl _, HOK.out, rfl, .inl ⟨rfl, rfl⟩⟩
      have HEND := Lib.hid (rep_end0 HI.out HST.out HA0.out)
      have x0 := HST.out.box.cell 0
      have x1 := HST.out.box.cell 1
      have x2 := HST.out.box.cell 2
      have x3 := HST.out.box.cell 3
      have x4 := HST.out.box.cell 4
      simp [rpV] at x0 x1 x2 x3 x4
      have y0 := HR.out.cell 0
      have y1 := HR.out.cell 1
      have y2 := HR.out.cell 2
      have y3 := HR.out.cell 3
      have y4 := HR.out.cell 4
      have g0 := HR.out.frozen 0
      have g1 := HR.out.frozen 1
      have g2 := HR.out.frozen 2
      have g3 := HR.out.frozen 3
      have g4 := HR.out.frozen 4
      simp at y0 y1 y2 y3 y4
      generalize rpTo L L.length = r at *
      go_wp2
      exact bodyPost_ret (v := .tuple #[.agg #[.int .i64 r.s, .slice A r.E.length n, .int .i64 r.c.1, .int .i64 r.c.2.1, .int .i64 r.c.2.2], .int .i64 (L.length : Int), .int .i64 0]) (by simp [results, Tryd.results15, go_sem, y0, y1, y2, y3, y4]) rfl HEND.out
end Go.Proofs.YtolkdidcmingkaaDoor
