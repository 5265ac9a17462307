/-
  Chapter 40: the walk of the law RunPermits.
-/
import Derived.Test.YtolkdidcmingkaaDoorRun15
import Derived.Test.YtolkdidcmingkaaDoorOpen
namespace Go.Proofs.YtolkdidcmingkaaDoor
open Go.RowKit
set_option linter.unusedVariables false
set_option linter.unusedSimpArgs false

theorem may_ways {s k : Int} (h : mayB s k = true) : (k = 1 ∧ (s = 1 ∨ s = 2)) ∨ (k = 2 ∧ (s = 2 ∨ s = 3)) ∨ (k = 6 ∧ (s = 2 ∨ s = 3)) ∨ (k = 3 ∧ s = 3) ∨ (k = 4 ∧ s = 4) ∨ (k = 5 ∧ (s = 4 ∨ s = 5)) := by
  unfold mayB at h
  simp only [Bool.or_eq_true, Bool.and_eq_true, beq_iff_eq] at h
  omega
/-- a step that succeeds: what it was asked -/
theorem st_ok {s : Int} {E : List Int} {c : T3} {k : Int} {F : List Int} {d : T3} (h : stE s E c k F d = 0) : mayB s k = true ∧ validB s E c = true ∧ (k = 1 → ascB F = true) ∧ (k = 2 → fitsB d E.length = true) := by
  unfold stE at h
  split at h
  · rename_i hv
    simp only [Bool.and_eq_true] at hv
    split at h
    · refine ⟨by assumption, hv.1, fun hk => ?_, fun hk => ?_⟩
      · rw [if_pos hk] at h
        split at h
        · assumption
        · omega
      · rw [if_neg (by omega), if_pos hk] at h
        split at h
        · assumption
        · omega
    · omega
  · omega
theorem valid_one {E : List Int} {c : T3} : validB 1 E c = ((E.length == 0) && eqC c C0) := by unfold validB; rw [if_pos rfl]
theorem valid_two {E : List Int} {c : T3} : validB 2 E c = (ascB E && eqC c C0) := by unfold validB; rw [if_neg (by decide), if_pos rfl]
theorem valid_many {s : Int} (h1 : 3 ≤ s) (h2 : s ≤ 6) {E : List Int} {c : T3} : validB s E c = (ascB E && fitsB c E.length) := by unfold validB; rw [if_neg (by omega), if_neg (by omega), if_pos ⟨h1, h2⟩]
theorem valid_step {r : RP} {x : CV} (hv : validB r.s r.E r.c = true) (he : erP r x = 0) : validB (stP r x).s (stP r x).E (stP r x).c = true := by
  have he' : stE r.s r.E r.c x.k x.F x.c = 0 := he
  obtain ⟨k1, _, k2, k3⟩ := st_ok he'
  have hs : (stP r x).s = nxt x.k := by show stS _ _ _ _ _ _ = _; unfold stS; rw [if_pos he']
  have hE : (stP r x).E = (if x.k = 1 then x.F else if x.k = 6 then [] else r.E) := by show stL _ _ _ _ _ _ = _; unfold stL; rw [if_pos he']
  have hc : (stP r x).c = (if x.k = 2 then x.c else if x.k = 6 then C0 else r.c) := by show stC _ _ _ _ _ _ = _; unfold stC; rw [if_pos he']
  rw [hs, hE, hc]
  unfold nxt
  rcases may_ways k1 with ⟨hk, h⟩ | ⟨hk, h⟩ | ⟨hk, h⟩ | ⟨hk, h⟩ | ⟨hk, h⟩ | ⟨hk, h⟩
  · rw [if_neg (by omega), if_pos hk, if_neg (by omega), if_neg (by omega), show x.k + 1 = 2 by omega, valid_two, k2 hk]
    rcases h with h | h
    · rw [h, valid_one, Bool.and_eq_true] at hv; rw [hv.2]; rfl
    · rw [h, valid_two, Bool.and_eq_true] at hv; rw [hv.2]; rfl
  · rw [if_neg (by omega), if_neg (by omega), if_neg (by omega), if_pos hk, show x.k + 1 = 3 by omega, valid_many (by omega) (by omega), k3 hk]
    rcases h with h | h
    · rw [h, valid_two, Bool.and_eq_true] at hv; rw [hv.1]; rfl
    · rw [h, valid_many (by omega) (by omega), Bool.and_eq_true] at hv; rw [hv.1]; rfl
  · rw [if_pos hk, if_neg (by omega), if_pos hk, if_neg (by omega), if_pos hk, valid_one]; rfl
  · rw [if_neg (by omega), if_neg (by omega), if_neg (by omega), if_neg (by omega), if_neg (by omega), valid_many (by omega) (by omega)]
    rw [valid_many (by omega) (by omega)] at hv; exact hv
  · rw [if_neg (by omega), if_neg (by omega), if_neg (by omega), if_neg (by omega), if_neg (by omega), valid_many (by omega) (by omega)]
    rw [valid_many (by omega) (by omega)] at hv; exact hv
  · rw [if_neg (by omega), if_neg (by omega), if_neg (by omega), if_neg (by omega), if_neg (by omega), valid_many (by omega) (by omega)]
    rw [valid_many (by omega) (by omega)] at hv; exact hv
theorem valid_draft : validB draft.s draft.E draft.c = true := by
  show validB 1 [] (0, 0, 0) = true
  rw [valid_one]; rfl
/-- the empty command of a kind: ErrState exactly if the kind is not permitted -/
theorem er_state {s : Int} {E : List Int} {c : T3} (hv : validB s E c = true) {k : Int} (h1 : 1 ≤ k) (h6 : k ≤ 6) : (stE s E c k [] (0, 0, 0) != 15) = mayB s k := by
  have hf : formB k ([] : List Int).length (eqC (0, 0, 0) C0) = true := by
    have : k = 1 ∨ k = 2 ∨ k = 3 ∨ k = 4 ∨ k = 5 ∨ k = 6 := by omega
    rcases this with rfl | rfl | rfl | rfl | rfl | rfl <;> rfl
  unfold stE
  rw [hv, hf]
  simp only [Bool.and_self, if_true]
  cases hm : mayB s k
  · rfl
  · simp only [if_true]
    split
    · split <;> rfl
    · split
      · split <;> rfl
      · split
        · split <;> rfl
        · rfl
/-- k is among the first j of a list -/
def inB (K : List Int) (k : Int) : Nat → Bool
  | 0 => false
  | j + 1 => inB K k j || (at1 K j == k)
theorem inB_iff (K : List Int) (k : Int) : ∀ j, j ≤ K.length → (inB K k j = true ↔ k ∈ K.take j)
  | 0, _ => by simp [inB]
  | j + 1, h => by
    have ih := inB_iff K k j (by omega)
    rw [inB, Bool.or_eq_true, ih, List.take_add_one, List.mem_append]
    have hj : K[j]? = some (at1 K j) := by simp [at1, show j < K.length by omega]
    rw [hj]
    simp only [Option.toList, List.mem_singleton, beq_iff_eq]
    exact ⟨fun h => h.imp id Eq.symm, fun h => h.imp id Eq.symm⟩
theorem inB_perm {s : Int} {E : List Int} {c : T3} (hv : validB s E c = true) (k : Int) : inB (permL s E c) k (permL s E c).length = mayB s k := by
  have h1 := inB_iff (permL s E c) k _ (Nat.le_refl _)
  rw [List.take_length] at h1
  have h2 : permL s E c = pmTo s 10 := by unfold permL; rw [if_pos hv]
  rw [h2] at h1 ⊢
  rw [pm_mem] at h1
  cases hi : inB (pmTo s 10) k (pmTo s 10).length <;> cases hm : mayB s k
  · rfl
  · rw [hi, hm] at h1; simp at h1
  · rw [hi, hm] at h1; simp at h1
  · rfl
def XT (_ : World) : Prop := True
theorem xt_stable (rb hi : Nat) : Stable XT rb hi := ⟨fun _ _ _ _ => trivial, fun _ _ _ _ _ _ => trivial⟩

set_option maxHeartbeats 6400000 in
set_option maxRecDepth 100000 in
theorem runPermits_walk (A0 : Option Addr) (c0 : Nat) (l0 : List Int) (kind : Int) (w : World) (hT : Tab w) (hr0 : RdI w w.heap.size A0 l0) (hl0 : l0.length ≤ 9223372036854775807) :
    Calls Tryd.prog 8 #[.slice A0 l0.length c0, .int .i64 kind] w (RetB true w) := by
  have HBR := Lib.hid (law_cmds A0 c0 8 l0 w (by omega) hr0 hl0 hT)
  clear hr0
  go_enter Tryd.func8, Tryd.ntmps8
  go_wp2_with fail
  refine HBR.out.mono ?_
  rintro e w1 ⟨rfl, hbr⟩
  have HBR := Lib.hid hbr
  clear hbr
  go_wp2_with fail
  refine HBR.out.mono ?_
  rintro e w2 ⟨Ad, cd, L, rfl, hL, hc, hb2, hT2⟩
  have hw2 := hb2.size
  obtain ⟨B, hBe⟩ : ∃ B, B = w2.heap.size := ⟨_, rfl⟩
  obtain ⟨rb, hrb⟩ : ∃ rb, rb = w2.heap.size := ⟨_, rfl⟩
  obtain ⟨X, hXe⟩ : ∃ X, X = XT := ⟨_, rfl⟩
  have HX : Hid (Stable X rb rb) := Lib.hid (by rw [hXe]; exact xt_stable _ _)
  have HLS0 : Hid (LS X rb w rb draft none 0 B Ad L (w2.alloc (.cells #[.int .i64 1, .slice none 0 0, .int .i64 0, .int .i64 0, .int .i64 0] 27))) := Lib.hid (by
    have hb : Below w2.heap.size w2 (w2.alloc (.cells #[.int .i64 1, .slice none 0 0, .int .i64 0, .int .i64 0, .int .i64 0] 27)) := (Below.refl _ _).alloc (Nat.le_refl _) _
    refine ⟨⟨hb2.trans (hb.mono hb2.size), ?_, by omega, Rd.none_, (fun b off e => by cases e), ?_, by omega, by simp [draft], hT2.calc_ hb⟩, ?_, by simp; omega, by omega⟩
    · rw [hrb]; exact Blk.new _ _ _
    · rw [hBe]; exact hc.below hb
    · rw [hXe]; trivial)
  clear hc hb2 hT2 HBR hT hBe hXe
  go_wp2
  rw [← hrb]
  clear hrb
  go_loopw [8, 9, 10] (fun i _ _ wr => ∃ (j : Nat) (A : Option Addr) (n : Nat) (r : RP), j ≤ L.length ∧ i = .int .i64 j ∧ validB r.s r.E r.c = true ∧ LS X rb w rb r A n B Ad L wr) (fun i _ _ _ => L.length - (intOf i).toNat)
  case atStart => exact ⟨0, none, 0, draft, Nat.zero_le _, rfl, valid_draft, HLS0.out⟩
  case round =>
    obtain ⟨j, A, n, r, hj, rfl, hva, hls⟩ := hrel
    have HVA := Lib.hid hva
    have HLS := Lib.hid hls
    clear hva hls HLS0
    by_cases hlt : j < L.length
    · obtain ⟨b, off, rfl, hbb, hcell⟩ := HLS.out.st.cmds.all (by omega)
      obtain ⟨e0, e1, e2, e3, e4⟩ := hcell j hlt
      clear hcell
      have x0 := HLS.out.st.box.cell 0
      have x1 := HLS.out.st.box.cell 1
      have x2 := HLS.out.st.box.cell 2
      have x3 := HLS.out.st.box.cell 3
      have x4 := HLS.out.st.box.cell 4
      simp [rpV] at x0 x1 x2 x3 x4
      have HSTEP : Hid (∀ W, LS X rb w rb (r) A n B (some ⟨b, off, none⟩) L W → Calls Tryd.prog 10 #[.agg #[.int .i64 (r).s, .slice A (r).E.length n, .int .i64 (r).c.1, .int .i64 (r).c.2.1, .int .i64 (r).c.2.2], .agg #[.int .i64 (cAt L j).k, .slice (cAt L j).A (cAt L j).F.length (cAt L j).n, .int .i64 (cAt L j).c.1, .int .i64 (cAt L j).c.2.1, .int .i64 (cAt L j).c.2.2]] W (StPost X rb w rb (r) A n B (some ⟨b, off, none⟩) L (cAt L j) W)) := Lib.hid (fun W h => h.step_ HX.out j hlt)
      have hA1 : Hid ((r).E ≠ [] → ∀ b off, A = some ⟨b, off, none⟩ → b < wr.heap.size) := Lib.hid (rd_lt HLS.out.st.rd)
      have hrbw := HLS.out.st.box.lt
      have hhiw := HLS.out.hlt
      have hbw : b < wr.heap.size := by have := HLS.out.st.blt; omega
      have hn1 : ¬ wr.heap.size = rb := by omega
      have hn2 : ¬ rb = wr.heap.size := by omega
      have hn3 : ¬ wr.heap.size = b := by omega
      have hn4 : ¬ b = wr.heap.size := by omega
      go_upto_region 7 with (fail)
      go_cut [9, 10] (fun a9 a10 wx => NX X rb w rb r A n B (some ⟨b, off, none⟩) L (cAt L j) a9 a10 wx)
      case first =>
        have hk1 : (0 : Int) ≤ (j : Int) := by omega
        have hk2 : (j : Int) < (L.length : Int) := by omega
        go_region_held3 (fun W => W.cell? ⟨rb, 0, none⟩ = some (.int .i64 r.s) ∧ W.cell? ⟨rb, 1, none⟩ = some (.slice A r.E.length n) ∧ W.cell? ⟨rb, 2, none⟩ = some (.int .i64 r.c.1) ∧ W.cell? ⟨rb, 3, none⟩ = some (.int .i64 r.c.2.1) ∧ W.cell? ⟨rb, 4, none⟩ = some (.int .i64 r.c.2.2) ∧ W.cell? ⟨b, off + j * 5, none⟩ = some (.int .i64 (cAt L j).k) ∧ W.cell? ⟨b, off + j * 5 + 1, none⟩ = some (.slice (cAt L j).A (cAt L j).F.length (cAt L j).n) ∧ W.cell? ⟨b, off + j * 5 + 2, none⟩ = some (.int .i64 (cAt L j).c.1) ∧ W.cell? ⟨b, off + j * 5 + 3, none⟩ = some (.int .i64 (cAt L j).c.2.1) ∧ W.cell? ⟨b, off + j * 5 + 4, none⟩ = some (.int .i64 (cAt L j).c.2.2)) (go_keep)
          (first | (go_at_call 10; refine (HSTEP.out _ ?_).mono ?_; (repeat (first | exact HLS.out | apply LS.alloc HX.out | apply LS.drew HX.out)); rintro e w6 ⟨A6, n6, rfl, hb6, hr6, hf6, hl6, hls6⟩; have HLS6 := Lib.hid hls6; have HR6 := Lib.hid hr6; have HF6 := Lib.hid hf6; have HB6 := Lib.hid hb6; have y0 := hls6.st.box.cell 0; have y1 := hls6.st.box.cell 1; have y2 := hls6.st.box.cell 2; have y3 := hls6.st.box.cell 3; have y4 := hls6.st.box.cell 4; (simp [rpV] at y0 y1 y2 y3 y4); have k0 := (bcl (b := b) (o := off + j * 5) hb6 (by first | exact hbw | (simp; omega))); have k1 := (bcl (b := b) (o := off + j * 5 + 1) hb6 (by first | exact hbw | (simp; omega))); have k2 := (bcl (b := b) (o := off + j * 5 + 2) hb6 (by first | exact hbw | (simp; omega))); have k3 := (bcl (b := b) (o := off + j * 5 + 3) hb6 (by first | exact hbw | (simp; omega))); have k4 := (bcl (b := b) (o := off + j * 5 + 4) hb6 (by first | exact hbw | (simp; omega))); (simp [e0, e1, e2, e3, e4, hbw] at k0 k1 k2 k3 k4); (first | (with_reducible have HMB := bx hb6) | (with_reducible have HMB := bx' hb6) | skip); (try (have m0 : w6.cell? ⟨wr.heap.size, 0, none⟩ = some (.int .i64 0) := HMB.cell 0; have m1 : w6.cell? ⟨wr.heap.size, 1, none⟩ = some (.slice none 0 0) := HMB.cell 1; have m2 : w6.cell? ⟨wr.heap.size, 2, none⟩ = some (.int .i64 0) := HMB.cell 2; have m3 : w6.cell? ⟨wr.heap.size, 3, none⟩ = some (.int .i64 0) := HMB.cell 3; have m4 : w6.cell? ⟨wr.heap.size, 4, none⟩ = some (.int .i64 0) := HMB.cell 4; have mf0 : w6.frozen? ⟨wr.heap.size, 0, none⟩ = false := HMB.frozen 0; have mf1 : w6.frozen? ⟨wr.heap.size, 1, none⟩ = false := HMB.frozen 1; have mf2 : w6.frozen? ⟨wr.heap.size, 2, none⟩ = false := HMB.frozen 2; have mf3 : w6.frozen? ⟨wr.heap.size, 3, none⟩ = false := HMB.frozen 3; have mf4 : w6.frozen? ⟨wr.heap.size, 4, none⟩ = false := HMB.frozen 4; have HMH := Lib.hid HMB; clear HMB)); clear hb6 hr6 hf6 hls6))
        all_goals go_wp2_with fail
        all_goals go_meet
        · exact nx_new HX.out HLS6.out HR6.out HF6.out (by simpa using hhiw) hl6 rfl
        · exact nx_old HX.out HLS6.out (fun hE b off e => by have := hA1.out hE b off e; omega) HR6.out HF6.out (by simp; omega) (by simp) hl6 HMH.out hhiw
      case rest =>
        obtain ⟨m, A', n', rfl, rfl, hbm, hmi, hr', hne', hl', hls'⟩ := hcut
        have HLS := Lib.hid hls'
        have HM := Lib.hid hbm
        have HR' := Lib.hid hr'
        have HNE := Lib.hid hne'
        have hrbm : rb < wc.heap.size := hls'.st.box.lt
        clear hbm hr' hne' hls' x0 x1 x2 x3 x4 e0 e1 e2 e3 e4 HSTEP
        have hrm : ¬ rb = m := by have := HLS.out.hle; omega
        have hmr : ¬ m = rb := by have := HLS.out.hle; omega
        by_cases he : erP r (cAt L j) = 0
        · have HN : Hid (validB (stP r (cAt L j)).s (stP r (cAt L j)).E (stP r (cAt L j)).c = true) := Lib.hid (valid_step HVA.out he)
          rw [he]
          have HLN := Lib.hid (HLS.out.next (n' := n') HX.out HR'.out (fun b off e => by have := HNE.out b off e; have := HLS.out.hle; omega) hl')
          have m0 := HM.out.cell 0
          have m1 := HM.out.cell 1
          have m2 := HM.out.cell 2
          have m3 := HM.out.cell 3
          have m4 := HM.out.cell 4
          have x0 := HLS.out.st.box.cell 0
          have x1 := HLS.out.st.box.cell 1
          have x2 := HLS.out.st.box.cell 2
          have x3 := HLS.out.st.box.cell 3
          have x4 := HLS.out.st.box.cell 4
          have f0 := HLS.out.st.box.frozen 0
          have f1 := HLS.out.st.box.frozen 1
          have f2 := HLS.out.st.box.frozen 2
          have f3 := HLS.out.st.box.frozen 3
          have f4 := HLS.out.st.box.frozen 4
          simp [rpV] at m0 m1 m2 m3 m4 x0 x1 x2 x3 x4
          clear he
          generalize stP r (cAt L j) = r' at *
          go_wp2
          go_roundw
          case rel => exact ⟨j + 1, A', n', r', by omega, by go_num, HN.out, HLN.out⟩
          case measure => simp [intOf]; omega
        · have t0 : (erP r (cAt L j) == 0) = false := by simpa using he
          clear he
          generalize erP r (cAt L j) = er at *
          generalize stP r (cAt L j) = r' at *
          go_wp2
          go_roundw
          case rel => exact ⟨j + 1, A, n, r, by omega, by go_num, HVA.out, HLS.out⟩
          case measure => simp [intOf]; omega
    · go_wp2_with fail
      refine (mod_any kind 6 _ (by omega) (by omega)).mono ?_
      rintro e w3 ⟨rfl, rfl⟩
      have hq0 : 0 ≤ kind % 6 := by omega
      have hq6 : kind % 6 < 6 := by omega
      generalize kind % 6 = q at *
      have x0 := HLS.out.st.box.cell 0
      have x1 := HLS.out.st.box.cell 1
      have x2 := HLS.out.st.box.cell 2
      have x3 := HLS.out.st.box.cell 3
      have x4 := HLS.out.st.box.cell 4
      simp [rpV] at x0 x1 x2 x3 x4
      go_wp2_with fail
      refine (step_any r.s A n r.E r.c.1 r.c.2.1 r.c.2.2 (1 + q) none 0 [] 0 0 0 _ HLS.out.st.tab HLS.out.st.rd HLS.out.st.len Rd.none_ (by simp)).mono ?_
      rintro e w4 ⟨A4, n4, rfl, hb4, -, -⟩
      have HLS := Lib.hid (HLS.out.calc_ HX.out hb4)
      have HER : Hid ((stE r.s r.E (r.c.1, r.c.2.1, r.c.2.2) (1 + q) [] (0, 0, 0) != 15) = mayB r.s (1 + q)) := Lib.hid (er_state (c := r.c) HVA.out (by omega) (by omega))
      have HIN : Hid (inB (permL r.s r.E (r.c.1, r.c.2.1, r.c.2.2)) (1 + q) (permL r.s r.E (r.c.1, r.c.2.1, r.c.2.2)).length = mayB r.s (1 + q)) := Lib.hid (inB_perm (c := r.c) HVA.out (1 + q))
      clear hb4 x0 x1 x2 x3 x4
      generalize stE r.s r.E (r.c.1, r.c.2.1, r.c.2.2) (1 + q) [] (0, 0, 0) = er at *
      generalize stS r.s r.E (r.c.1, r.c.2.1, r.c.2.2) (1 + q) [] (0, 0, 0) = s4 at *
      generalize stL r.s r.E (r.c.1, r.c.2.1, r.c.2.2) (1 + q) [] (0, 0, 0) = E4 at *
      generalize stC r.s r.E (r.c.1, r.c.2.1, r.c.2.2) (1 + q) [] (0, 0, 0) = c4 at *
      have x0 := HLS.out.st.box.cell 0
      have x1 := HLS.out.st.box.cell 1
      have x2 := HLS.out.st.box.cell 2
      have x3 := HLS.out.st.box.cell 3
      have x4 := HLS.out.st.box.cell 4
      simp [rpV] at x0 x1 x2 x3 x4
      have hrb4 := HLS.out.st.box.lt
      go_wp2_with fail
      refine (permitted_any r.s A n r.E r.c.1 r.c.2.1 r.c.2.2 _ (HLS.out.alloc HX.out _).st.tab (HLS.out.alloc HX.out _).st.rd (by have := HLS.out.st.len; omega)).mono ?_
      rintro e w5 ⟨A5, n5, rfl, hb5, hr5⟩
      have HLS := Lib.hid ((HLS.out.alloc HX.out _).calc_ HX.out hb5)
      have HR5 := Lib.hid hr5
      clear hb5 hr5 x0 x1 x2 x3 x4 hrb4
      have hK : (permL r.s r.E (r.c.1, r.c.2.1, r.c.2.2)).length ≤ 10 := by unfold permL; split; exact pmTo_len _ _; simp
      generalize permL r.s r.E (r.c.1, r.c.2.1, r.c.2.2) = K at *
      generalize mayB r.s (1 + q) = M at *
      have hneq := HER.out
      clear HER
      go_wp2
      go_loopw [15, 16] (fun v i wr => ∃ j : Nat, j ≤ K.length ∧ i = .int .i64 j ∧ v = .bool (inB K (1 + q) j) ∧ ∃ m, wr = w5.drewN m) (fun _ i _ => K.length - (intOf i).toNat)
      case atStart => exact ⟨0, Nat.zero_le _, rfl, rfl, 0, rfl⟩
      case round =>
        obtain ⟨i, hi, rfl, rfl, m, rfl⟩ := hrel
        by_cases hlt : i < K.length
        · obtain ⟨b, off, rfl, hb, e1⟩ := HR5.out.at_ hlt
          have HNX : Hid (inB K (1 + q) (i + 1) = (inB K (1 + q) i || (at1 K i == 1 + q))) := Lib.hid rfl
          cases hib : inB K (1 + q) i
          · rw [hib] at HNX
            go_wp2
            go_roundw
            case rel => exact ⟨i + 1, by omega, by go_num, by rw [HNX.out]; simp, _, rfl⟩
            case measure => simp [intOf]; omega
          · rw [hib] at HNX
            go_wp2
            go_roundw
            case rel => exact ⟨i + 1, by omega, by go_num, by rw [HNX.out]; simp, _, rfl⟩
            case measure => simp [intOf]; omega
        · obtain rfl : i = K.length := by omega
          rw [HIN.out]
          have HLS := Lib.hid (HLS.out.calc_ HX.out (below_drewN (Below.refl _ _) m))
          go_wp2_with fail
          refine (awake_any _ HLS.out.st.tab).mono ?_
          rintro e w8 ⟨rfl, hb8⟩
          have HLS := Lib.hid (HLS.out.calc_ HX.out hb8)
          clear hb8
          go_wp2
          go_ret
          exact ⟨rfl, HLS.out.st.below⟩
end Go.Proofs.YtolkdidcmingkaaDoor
