/-
  The walk of the law BracketValid.
-/
import Derived.Test.YtflbndcdnenkdaaLaws29
namespace Go.Proofs.Ytflbndcdnenkdaa
open Go.RowKit
set_option linter.unusedVariables false
set_option linter.unusedSimpArgs false

theorem OwnP.at_ {w : World} {base : Nat} {A : Option Addr} {c : Nat} {l : List (Int × Int)} (h : OwnP w base A c l) {i : Nat} (hi : i < l.length) :
    ∃ g, A = some ⟨g, 0, none⟩ ∧ base ≤ g ∧ g < w.heap.size ∧ w.cell? ⟨g, i * 2, none⟩ = some (.int .i64 (fst2 l i)) ∧ w.cell? ⟨g, i * 2 + 1, none⟩ = some (.int .i64 (snd2 l i)) ∧ ∀ j, w.frozen? ⟨g, j, none⟩ = false := by
  obtain ⟨g, cap, hv, hb, hlt⟩ := World.ownsRow.form h (by omega)
  injection hv with hA _ hc
  subst hA
  subst hc
  have hg := flat_get l i hi
  have hc := World.ownsRow.cells (g := g) h rfl
  refine ⟨g, rfl, hb, hlt, ?_, ?_, fun j => World.ownsRow.frozenAt h j⟩
  · simpa [Go.WideShapes.add_plain] using hc _ _ hg.1
  · simpa [Go.WideShapes.add_plain] using hc _ _ hg.2
theorem set_fst (l : List (Int × Int)) (i j : Nat) (p : Int × Int) (hi : i < l.length) : fst2 (l.set i p) j = if j = i then p.1 else fst2 l j := by
  unfold fst2
  simp only [List.getD_eq_getElem?_getD, List.getElem?_set]
  by_cases h : i = j
  · subst h; simp [hi]
  · rw [if_neg h, if_neg (fun e => h e.symm)]
theorem set_snd (l : List (Int × Int)) (i j : Nat) (p : Int × Int) (hi : i < l.length) : snd2 (l.set i p) j = if j = i then p.2 else snd2 l j := by
  unfold snd2
  simp only [List.getD_eq_getElem?_getD, List.getElem?_set]
  by_cases h : i = j
  · subst h; simp [hi]
  · rw [if_neg h, if_neg (fun e => h e.symm)]
theorem rdP_set1 {W : World} {B b off i : Nat} {l : List (Int × Int)} (h : RdP W B (some ⟨b, off, none⟩) l) (hi : i < l.length) (v : Int) :
    RdP (W.setCell ⟨b, off + i * 2 + 1, none⟩ (.int .i64 v)) B (some ⟨b, off, none⟩) (l.set i (fst2 l i, v)) := by
  intro hn
  rw [List.length_set] at hn
  obtain ⟨b', off', e, hb, hc⟩ := h hn
  injection e with e
  injection e with e1 e2 _
  subst e1 e2
  refine ⟨b, off, rfl, hb, fun k j hk hj => ?_⟩
  rw [List.length_set] at hk
  have hcell := hc k j hk hj
  by_cases he : k = i ∧ j = 1
  · obtain ⟨rfl, rfl⟩ := he
    rw [World.cell?_setCell_same _ _ _ hcell]
    simp [pairCell, set_snd _ _ _ _ hi]
  · rw [World.cell?_setCell_other _ _ _ _ (by intro e; injection e with _ e; omega), hcell]
    rcases (show j = 0 ∨ j = 1 by omega) with rfl | rfl
    · simp only [pairCell, if_pos]
      rw [set_fst _ _ _ _ hi]
      by_cases hki : k = i
      · rw [if_pos hki, hki]
      · rw [if_neg hki]
    · simp only [pairCell, if_neg (show ¬ (1 = 0) by omega)]
      rw [set_snd _ _ _ _ hi, if_neg (fun e => he ⟨e, rfl⟩)]
theorem rdP_set0 {W : World} {B b off i : Nat} {l : List (Int × Int)} (h : RdP W B (some ⟨b, off, none⟩) l) (hi : i < l.length) (v : Int) :
    RdP (W.setCell ⟨b, off + i * 2, none⟩ (.int .i64 v)) B (some ⟨b, off, none⟩) (l.set i (v, snd2 l i)) := by
  intro hn
  rw [List.length_set] at hn
  obtain ⟨b', off', e, hb, hc⟩ := h hn
  injection e with e
  injection e with e1 e2 _
  subst e1 e2
  refine ⟨b, off, rfl, hb, fun k j hk hj => ?_⟩
  rw [List.length_set] at hk
  have hcell := hc k j hk hj
  by_cases he : k = i ∧ j = 0
  · obtain ⟨rfl, rfl⟩ := he
    rw [Nat.add_zero] at hcell ⊢
    rw [World.cell?_setCell_same _ _ _ hcell]
    simp [pairCell, set_fst _ _ _ _ hi]
  · rw [World.cell?_setCell_other _ _ _ _ (by intro e; injection e with _ e; omega), hcell]
    rcases (show j = 0 ∨ j = 1 by omega) with rfl | rfl
    · simp only [pairCell, if_pos]
      rw [set_fst _ _ _ _ hi, if_neg (fun e => he ⟨e, rfl⟩)]
    · simp only [pairCell, if_neg (show ¬ (1 = 0) by omega)]
      rw [set_snd _ _ _ _ hi]
      by_cases hki : k = i
      · rw [if_pos hki, hki]
      · rw [if_neg hki]

set_option maxHeartbeats 3200000 in
theorem bracketValid_walk (Ar : Option Addr) (cr : Nat) (raw : List (Int × Int)) (A0 : Option Addr) (c0 : Nat) (l0 : List Int) (by' : Int) (w : World) (hrr : RdP w w.heap.size Ar raw) (hlr : raw.length ≤ 9223372036854775807) (hbr : ∀ i, i < raw.length → InR (fst2 raw i) ∧ InR (snd2 raw i))
    (hr0 : RdI w w.heap.size A0 l0) (hl0 : l0.length ≤ 9223372036854775807) (hb0 : ∀ i, i < l0.length → InR (at1 l0 i)) (hby : InR by') :
    Calls Try.prog 3 #[.slice Ar raw.length cr, .slice A0 l0.length c0, .int .i64 by'] w (RetB true w) := by
  clear hbr
  have HRR := Lib.hid hrr
  clear hrr
  by_cases h30 : 30 < raw.length
  · have hd : decide (30 < (raw.length : Int)) = true := by simp; omega
    clear hr0 hb0
    go_enter Try.func3, Try.ntmps3
    go_wp2_with fail
    refine (awake_any _).mono ?_
    rintro e w1 ⟨rfl, hb1⟩
    have HB1 := Lib.hid hb1
    clear hb1
    go_wp2
    go_ret
    exact ⟨rfl, HB1.out⟩
  · have hd : decide (30 < (raw.length : Int)) = false := by simp; omega
    go_enter Try.func3, Try.ntmps3
    go_wp2_with fail
    refine (law_start false (P := fun _ _ _ => True) A0 c0 l0 w hr0 hl0).mono ?_
    rintro e w1 ⟨rfl, hbr⟩
    have HBR := Lib.hid hbr
    clear hbr hr0 hb0
    generalize hg : w.heap.size = g at *
    have HG := Lib.hid hg
    clear hg
    go_wp2_with fail
    refine HBR.out.mono ?_
    rintro e w2 ⟨A, c, l, rfl, hgen, hown, hw1, hdr⟩
    have hl4 := hgen.2.1
    have hl1 := hgen.1
    have HOw := Lib.hid hown
    have HDr := Lib.hid hdr
    clear hgen hdr HBR hown
    go_wp2_with fail
    refine (next_any g 20 _ _ HDr.out.deck (by omega) (by omega) (by omega)).mono ?_
    rintro e w3 ⟨vi, rfl, hvi, ho, hD⟩
    obtain ⟨i, rfl⟩ : ∃ i : Nat, vi = i := ⟨vi.toNat, by omega⟩
    have hi : i < l.length := by omega
    have HDr := Lib.hid (HDr.out.draw ho hD)
    have HOw := Lib.hid (HOw.out.only ho (by omega))
    clear ho hD
    obtain ⟨gb, rfl, hgb1, hgb2, _, _, _⟩ := HOw.out.at_ hi
    go_wp2_with fail
    refine (next_any g (20 + 1) _ _ HDr.out.deck (by omega) (by omega) (by omega)).mono ?_
    rintro e w4 ⟨vc, rfl, hvc, ho, hD⟩
    have HDr := Lib.hid (HDr.out.draw ho hD)
    have HOw := Lib.hid (HOw.out.only ho (by omega))
    clear ho hD
    obtain ⟨gb', hgb', _, hgs, q0, q1, qf⟩ := HOw.out.at_ hi
    have hge : gb' = gb := by injection hgb' with hgb'; injection hgb' with hgb'; exact hgb'.symm
    subst hge
    clear hgb'
    have hqf0 := qf (i * 2)
    have hqf1 := qf (i * 2 + 1)
    clear qf
    by_cases hc0 : vc = 0
    · subst hc0
      have hmb := mod_bd by' 4 (by omega)
      go_wp2_with fail
      refine (mod_any by' 4 _ (by omega) (by omega)).mono ?_
      rintro e w5 ⟨rfl, rfl⟩
      generalize by' % 4 = md at *
      obtain ⟨k, rfl⟩ : ∃ k : Nat, md = k := ⟨md.toNat, by omega⟩
      have hk : k < 4 := by omega
      obtain ⟨_, _, e1, _, hcl⟩ := (rdI_new w4 [-1, 0, 1000000, 1000001] 3).all (by decide)
      have hkc : (w4.alloc (.cells #[.int .i64 (-1), .int .i64 0, .int .i64 1000000, .int .i64 1000001] 3)).cell? ⟨w4.heap.size, k, none⟩ = some (.int .i64 (at1 [-1, 0, 1000000, 1000001] k)) := by
        injection e1 with e1
        injection e1 with e1 e2
        subst e1 e2
        simpa using hcl k (by simpa using hk)
      clear hcl e1
      generalize at1 [-1, 0, 1000000, 1000001] k = val at *
      go_wp2_with fail
      obtain ⟨l', hlen, HRT⟩ : ∃ l' : List (Int × Int), l'.length = l.length ∧ Hid (RdP ((w4.setCell ⟨gb', i * 2 + 1, none⟩ (.int .i64 val)).alloc (.cells #[.int .i64 (-1), .int .i64 0, .int .i64 1000000, .int .i64 1000001] 3)) (w4.heap.size + 1) (some ⟨gb', 0, none⟩) l') :=
        ⟨l.set i (fst2 l i, val), List.length_set, Lib.hid (by
          have h1 : RdP (w4.setCell ⟨gb', i * 2 + 1, none⟩ (.int .i64 val)) w4.heap.size (some ⟨gb', 0, none⟩) (l.set i (fst2 l i, val)) := by simpa using rdP_set1 (own_rd HOw.out) hi val
          exact Rd.more (h1.below ((Below.refl _ _).alloc (by simp [World.setCell]) _)) (by omega))⟩
      have HB5 : Hid (Below g w ((w4.setCell ⟨gb', i * 2 + 1, none⟩ (.int .i64 val)).alloc (.cells #[.int .i64 (-1), .int .i64 0, .int .i64 1000000, .int .i64 1000001] 3))) := Lib.hid (by
        have h1 := HDr.out.below
        rw [HG.out] at h1
        have h2 := h1.size
        rw [HG.out] at h2
        exact ((h1.setCell (by show g ≤ gb'; omega) _).alloc (by simp [World.setCell]; omega) _))
      have hsz : ((w4.setCell ⟨gb', i * 2 + 1, none⟩ (.int .i64 val)).alloc (.cells #[.int .i64 (-1), .int .i64 0, .int .i64 1000000, .int .i64 1000001] 3)).heap.size = w4.heap.size + 1 := by simp [World.setCell]
      have HS5 := Lib.hid hsz
      have hwg : g < w4.heap.size := HDr.out.deck.lt
      clear hsz hkc q0 q1 hqf0 hqf1
      rw [← hlen]
      have hl4' : l'.length ≤ 4 := by omega
      clear hlen
      generalize ((w4.setCell ⟨gb', i * 2 + 1, none⟩ (.int .i64 val)).alloc (.cells #[.int .i64 (-1), .int .i64 0, .int .i64 1000000, .int .i64 1000001] 3)) = W5 at *
      refine (valid_any Ar cr _ raw W5 (HRR.out.below HB5.out) (by rw [HS5.out]; omega) (by omega)).mono ?_
      rintro e w6 ⟨rfl, hb⟩
      have hs6 := hb.size
      rw [HS5.out] at hs6
      have HRT := Lib.hid (HRT.out.below (by rw [← HS5.out]; exact hb))
      have HB6 := Lib.hid (HB5.out.trans (hb.mono (by rw [HS5.out]; omega)))
      clear hb
      go_wp2_with fail
      refine (refValid_any Ar cr _ raw w6 (HRR.out.below HB6.out) (by omega) (by omega)).mono ?_
      rintro e w7 ⟨rfl, hb⟩
      have hs7 := hb.size
      have HRT := Lib.hid (HRT.out.below (hb.mono hs6))
      have HB7 := Lib.hid (HB6.out.trans (hb.mono (by omega)))
      clear hb
      have tv : (valB raw == valB raw) = true := by simp
      have tv' : (valB l' == valB l') = true := by simp
      generalize valB raw = vr at *
      go_wp2_with fail
      refine (valid_any _ c _ l' w7 HRT.out (by omega) (by omega)).mono ?_
      rintro e w8 ⟨rfl, hb⟩
      have hs8 := hb.size
      have HRT := Lib.hid (HRT.out.below (hb.mono (by omega)))
      have HB8 := Lib.hid (HB7.out.trans (hb.mono (by omega)))
      clear hb
      go_wp2_with fail
      refine (refValid_any _ c _ l' w8 HRT.out (by omega) (by omega)).mono ?_
      rintro e w9 ⟨rfl, hb⟩
      have hs9 := hb.size
      have HB9 := Lib.hid (HB8.out.trans (hb.mono (by omega)))
      clear hb
      generalize valB l' = vt at *
      go_wp2_with fail
      refine (awake_any _).mono ?_
      rintro e w10 ⟨rfl, hb⟩
      have HB10 := Lib.hid (HB9.out.trans (hb.mono (by omega)))
      clear hb
      go_wp2
      go_ret
      exact ⟨rfl, by rw [HG.out]; exact HB10.out⟩
    · have hc0' : (vc == 0) = false := by simpa using hc0
      have hmb := mod_bd by' 5 (by omega)
      go_wp2_with fail
      refine (mod_any by' 5 _ (by omega) (by omega)).mono ?_
      rintro e w5 ⟨rfl, rfl⟩
      generalize by' % 5 = md at *
      obtain ⟨k, rfl⟩ : ∃ k : Nat, md = k := ⟨md.toNat, by omega⟩
      have hk : k < 5 := by omega
      obtain ⟨_, _, e1, _, hcl⟩ := (rdI_new w4 [-1, 0, 1, 1000000000000, 1000000000001] 3).all (by decide)
      have hkc : (w4.alloc (.cells #[.int .i64 (-1), .int .i64 0, .int .i64 1, .int .i64 1000000000000, .int .i64 1000000000001] 3)).cell? ⟨w4.heap.size, k, none⟩ = some (.int .i64 (at1 [-1, 0, 1, 1000000000000, 1000000000001] k)) := by
        injection e1 with e1
        injection e1 with e1 e2
        subst e1 e2
        simpa using hcl k (by simpa using hk)
      clear hcl e1
      generalize at1 [-1, 0, 1, 1000000000000, 1000000000001] k = val at *
      go_wp2_with fail
      obtain ⟨l', hlen, HRT⟩ : ∃ l' : List (Int × Int), l'.length = l.length ∧ Hid (RdP ((w4.setCell ⟨gb', i * 2, none⟩ (.int .i64 val)).alloc (.cells #[.int .i64 (-1), .int .i64 0, .int .i64 1, .int .i64 1000000000000, .int .i64 1000000000001] 3)) (w4.heap.size + 1) (some ⟨gb', 0, none⟩) l') :=
        ⟨l.set i (val, snd2 l i), List.length_set, Lib.hid (by
          have h1 : RdP (w4.setCell ⟨gb', i * 2, none⟩ (.int .i64 val)) w4.heap.size (some ⟨gb', 0, none⟩) (l.set i (val, snd2 l i)) := by simpa using rdP_set0 (own_rd HOw.out) hi val
          exact Rd.more (h1.below ((Below.refl _ _).alloc (by simp [World.setCell]) _)) (by omega))⟩
      have HB5 : Hid (Below g w ((w4.setCell ⟨gb', i * 2, none⟩ (.int .i64 val)).alloc (.cells #[.int .i64 (-1), .int .i64 0, .int .i64 1, .int .i64 1000000000000, .int .i64 1000000000001] 3))) := Lib.hid (by
        have h1 := HDr.out.below
        rw [HG.out] at h1
        have h2 := h1.size
        rw [HG.out] at h2
        exact ((h1.setCell (by show g ≤ gb'; omega) _).alloc (by simp [World.setCell]; omega) _))
      have hsz : ((w4.setCell ⟨gb', i * 2, none⟩ (.int .i64 val)).alloc (.cells #[.int .i64 (-1), .int .i64 0, .int .i64 1, .int .i64 1000000000000, .int .i64 1000000000001] 3)).heap.size = w4.heap.size + 1 := by simp [World.setCell]
      have HS5 := Lib.hid hsz
      have hwg : g < w4.heap.size := HDr.out.deck.lt
      clear hsz hkc q0 q1 hqf0 hqf1
      rw [← hlen]
      have hl4' : l'.length ≤ 4 := by omega
      clear hlen
      generalize ((w4.setCell ⟨gb', i * 2, none⟩ (.int .i64 val)).alloc (.cells #[.int .i64 (-1), .int .i64 0, .int .i64 1, .int .i64 1000000000000, .int .i64 1000000000001] 3)) = W5 at *
      refine (valid_any Ar cr _ raw W5 (HRR.out.below HB5.out) (by rw [HS5.out]; omega) (by omega)).mono ?_
      rintro e w6 ⟨rfl, hb⟩
      have hs6 := hb.size
      rw [HS5.out] at hs6
      have HRT := Lib.hid (HRT.out.below (by rw [← HS5.out]; exact hb))
      have HB6 := Lib.hid (HB5.out.trans (hb.mono (by rw [HS5.out]; omega)))
      clear hb
      go_wp2_with fail
      refine (refValid_any Ar cr _ raw w6 (HRR.out.below HB6.out) (by omega) (by omega)).mono ?_
      rintro e w7 ⟨rfl, hb⟩
      have hs7 := hb.size
      have HRT := Lib.hid (HRT.out.below (hb.mono hs6))
      have HB7 := Lib.hid (HB6.out.trans (hb.mono (by omega)))
      clear hb
      have tv : (valB raw == valB raw) = true := by simp
      have tv' : (valB l' == valB l') = true := by simp
      generalize valB raw = vr at *
      go_wp2_with fail
      refine (valid_any _ c _ l' w7 HRT.out (by omega) (by omega)).mono ?_
      rintro e w8 ⟨rfl, hb⟩
      have hs8 := hb.size
      have HRT := Lib.hid (HRT.out.below (hb.mono (by omega)))
      have HB8 := Lib.hid (HB7.out.trans (hb.mono (by omega)))
      clear hb
      go_wp2_with fail
      refine (refValid_any _ c _ l' w8 HRT.out (by omega) (by omega)).mono ?_
      rintro e w9 ⟨rfl, hb⟩
      have hs9 := hb.size
      have HB9 := Lib.hid (HB8.out.trans (hb.mono (by omega)))
      clear hb
      generalize valB l' = vt at *
      go_wp2_with fail
      refine (awake_any _).mono ?_
      rintro e w10 ⟨rfl, hb⟩
      have HB10 := Lib.hid (HB9.out.trans (hb.mono (by omega)))
      clear hb
      go_wp2
      go_ret
      exact ⟨rfl, by rw [HG.out]; exact HB10.out⟩
end Go.Proofs.Ytflbndcdnenkdaa
