/-
  Chapter 30: the walk of the law WithholdingGrows.
-/
import Derived.Test.YtcincmlpegnaiaaWh18
import Derived.Test.YtcincmlpegnaiaaOpen
namespace Go.Proofs.Ytcincmlpegnaiaa
open Go.RowKit
set_option linter.unusedVariables false
set_option linter.unusedSimpArgs false


theorem up_mono {q r r' s mode : Int} (h0 : 0 ≤ r) (hr : r ≤ r') (h : upB q r s mode = true) : upB q r' s mode = true := by
  unfold upB at h ⊢
  by_cases e : r = 0
  · rw [if_pos e] at h; cases h
  · rw [if_neg e] at h
    rw [if_neg (by omega)]
    by_cases e1 : mode = 1 ∨ mode = 3
    · rw [if_pos e1]
    · rw [if_neg e1] at h ⊢
      by_cases e4 : mode = 4
      · rw [if_pos e4] at h ⊢
        simp at h ⊢
        omega
      · rw [if_neg e4] at h ⊢
        by_cases e5 : mode = 5
        · rw [if_pos e5] at h ⊢
          simp at h ⊢
          omega
        · rw [if_neg e5] at h ⊢
          by_cases e6 : mode = 6
          · rw [if_pos e6] at h ⊢
            simp at h ⊢
            omega
          · rw [if_neg e6] at h; cases h
theorem round_mono {x y un mode : Int} (hxy : x ≤ y) (hu : 1 ≤ un) : roundV x un mode ≤ roundV y un mode := by
  have hs : 0 < 1000000 * un := by omega
  have hq : x / (1000000 * un) ≤ y / (1000000 * un) := Int.ediv_le_ediv hs hxy
  have ex := Int.mul_ediv_add_emod x (1000000 * un)
  have ey := Int.mul_ediv_add_emod y (1000000 * un)
  have rx := Int.emod_nonneg x (show (1000000 * un) ≠ 0 by omega)
  unfold roundV
  refine Int.mul_le_mul_of_nonneg_right ?_ (by omega)
  by_cases he : x / (1000000 * un) = y / (1000000 * un)
  · have hr : x % (1000000 * un) ≤ y % (1000000 * un) := by rw [he] at ex; omega
    rw [he]
    cases hu2 : upB (y / (1000000 * un)) (x % (1000000 * un)) (1000000 * un) mode
    · simp
      split <;> omega
    · rw [up_mono rx hr hu2]
      exact Int.le_refl _
  · split <;> split <;> omega
theorem tx_mono {l : List (Int × Int)} {un mo al cr inc inc' : Int} (h : Val l) (h0 : 0 ≤ inc) (hle : inc ≤ inc') (h1 : inc' ≤ 1000000000000) (hu : 1 ≤ un) (hu2 : un ≤ 100) (hm : 0 ≤ mo) (hm2 : mo ≤ 6) (ha : 0 ≤ al) : txV l un mo al cr inc ≤ txV l un mo al cr inc' := by
  have a := (tax_facts (l := l) (n := max (inc - al) 0) (un := un) (mo := mo) h (by omega) (by omega) hu hu2 hm hm2).2.1
  have b := (tax_facts (l := l) (n := max (inc' - al) 0) (un := un) (mo := mo) h (by omega) (by omega) hu hu2 hm hm2).2.1
  have e : exL l (max (inc - al) 0) ≤ exL l (max (inc' - al) 0) := by
    rw [exL_eq, exL_eq]
    exact (ex_mono (M := 1000000) (val_mono h) h.2.2.1 (by omega) (by have := h.1; omega) (by omega) (fun i hi => val_rate h i hi) (by omega)).1
  have r := round_mono (mode := mo) e hu
  unfold txV
  rw [a, b]
  omega
structure GrowF (t : TF) (n m c k : Int) : Prop where
  a1 : annE t n = 0
  a2 : annE t m = 0
  a3 : annV t n ≤ annV t m
  a4 : 0 ≤ annV t n
  f1 : frmE t n c = 0
  f2 : frmE t m c = 0
  f3 : frmV t n c ≤ frmV t m c
  f4 : 0 ≤ frmV t n c
  d1 : dueE t c k n = 0
  d2 : dueE t c k m = 0
  d3 : dueV t c k n ≤ dueV t c k m
  d4 : 0 ≤ dueV t c k n
theorem grow_facts {t : TF} {n m c k : Int} (hv : tvB t = true) (h0 : 0 ≤ n) (hnm : n ≤ m) (hm : m ≤ 1000000000) (h1 : 1 ≤ c) (h53 : c ≤ 53) (hk : 1 ≤ k) (hkc : k ≤ c) : GrowF t n m c k := by
  obtain ⟨p1, p2, p3, p4, p5, p6, p7, p8, p9⟩ := tv_facts hv
  have A1 := if_ok (x := annX t n) (c := 2) hv (show annP n from ⟨h0, by omega⟩)
  have A2 := if_ok (x := annX t m) (c := 2) hv (show annP m from ⟨by omega, by omega⟩)
  have F1 := if_ok (x := frmX t n c) (c := 2) hv (show frmP n c from ⟨h0, by omega, h1, h53⟩)
  have F2 := if_ok (x := frmX t m c) (c := 2) hv (show frmP m c from ⟨by omega, hm, h1, h53⟩)
  have D1 := if_ok (x := dueX t c k n) (c := 2) hv (show dueP c k n from ⟨h1, h53, hk, hkc, h0, by omega⟩)
  have D2 := if_ok (x := dueX t c k m) (c := 2) hv (show dueP c k m from ⟨h1, h53, hk, hkc, by omega, by omega⟩)
  have n1 : 0 ≤ n * c := Int.mul_nonneg h0 (by omega)
  have n2 : n * c ≤ m * c := Int.mul_le_mul_of_nonneg_right hnm (by omega)
  have n3 : m * c ≤ 1000000000 * 53 := Int.le_trans (Int.mul_le_mul_of_nonneg_right hm (by omega)) (Int.mul_le_mul_of_nonneg_left h53 (by omega))
  have bA := tx_bd (al := t.al) (cr := t.cr) (inc := n) (un := t.un) (mo := t.mo) p1 h0 (by omega) p6 p7 p8 p9 p2 p4
  have bF := tx_bd (al := t.al) (cr := t.cr) (inc := n * c) (un := t.un) (mo := t.mo) p1 n1 (by omega) p6 p7 p8 p9 p2 p4
  have bD := due_bd (t := t) (c := c) (k := k) (tot := n) hv ⟨h1, h53, hk, hkc, h0, by omega⟩
  have mA : annX t n ≤ annX t m := tx_mono p1 h0 hnm (by omega) p6 p7 p8 p9 p2
  have mF : frmX t n c ≤ frmX t m c := Int.ediv_le_ediv (by omega) (tx_mono p1 n1 n2 (by omega) p6 p7 p8 p9 p2)
  have mD : dueX t c k n ≤ dueX t c k m := tx_mono (scale_val p1 ⟨h1, h53, by omega, hkc⟩) h0 hnm (by omega) p6 p7 p8 p9 (part_bd p2 (by omega) hkc h1).1
  have zF : 0 ≤ frmX t n c := Int.ediv_nonneg bF.1 (by omega)
  exact ⟨A1.2, A2.2, by show okIf _ _ _ ≤ okIf _ _ _; rw [A1.1, A2.1]; exact mA, by show 0 ≤ okIf _ _ _; rw [A1.1]; exact bA.1, F1.2, F2.2, by show okIf _ _ _ ≤ okIf _ _ _; rw [F1.1, F2.1]; exact mF, by show 0 ≤ okIf _ _ _; rw [F1.1]; exact zF, D1.2, D2.2, by show okIf _ _ _ ≤ okIf _ _ _; rw [D1.1, D2.1]; exact mD, by show 0 ≤ okIf _ _ _; rw [D1.1]; exact bD.1⟩
set_option maxHeartbeats 3200000 in
set_option maxRecDepth 100000 in
theorem withholdingGrows_walk (A0 : Option Addr) (c0 : Nat) (l0 : List Int) (more : Int) (w : World) (hr0 : RdI w w.heap.size A0 l0) (hl0 : l0.length ≤ 9223372036854775807) (hb0 : ∀ i, i < l0.length → InR (at1 l0 i)) (h1 : InR more) :
    Calls Try.prog 10 #[.slice A0 l0.length c0, .int .i64 more] w (RetB true w) := by
  clear hb0
  go_enter Try.func10, Try.ntmps10
  clear h1
  go_wp2_with fail
  refine (new_any A0 c0 l0 w hr0 hl0).mono ?_
  rintro e w1 ⟨rfl, hb1, hD1, hs1⟩
  have HB1 := Lib.hid hb1
  have HD1 := Lib.hid hD1
  clear hb1 hD1 hr0
  go_wp2_with fail
  refine (tariff0_any w.heap.size 0 _ HD1.out (by omega)).mono ?_
  rintro e w2 ⟨t, L, rfl, hv, hrt, hna, hnr, ho, hD2⟩
  have HLW := Lib.hid (LW.start HB1.out hs1 ho hD2 hrt hna hnr)
  have HV := Lib.hid hv
  have hw2 : w.heap.size < w2.heap.size := by have := ho.size; omega
  clear hv hrt hna hnr ho hD2 HB1 HD1
  go_wp2_with fail
  refine (small_any w.heap.size (0 + 40) _ HLW.out.deck (by omega)).mono ?_
  rintro e w3 ⟨v3, rfl, hv3, ho, hD'⟩
  have HLW := Lib.hid (HLW.out.draw ho hD')
  clear ho hD'
  go_wp2_with fail
  refine (mod_any more 1000000 _ (by omega) (by omega)).mono ?_
  rintro e wm ⟨rfl, rfl⟩
  have hq0 : 0 ≤ more % 1000000 := by omega
  have hq1 : more % 1000000 < 1000000 := by omega
  generalize more % 1000000 = q at *
  go_wp2_with fail
  refine (pick_new w.heap.size (0 + 40 + 2) [12, 4] _ 3 2 HLW.out.deck (by omega) (by decide) (by decide)).mono ?_
  rintro e w4 ⟨c, rfl, hx, ho, hD'⟩
  have HLW := Lib.hid (HLW.out.draw ho hD')
  have hc : 4 ≤ c ∧ c ≤ 12 := by simp at hx; omega
  clear hx ho hD'
  go_wp2_with fail
  refine (next_any w.heap.size (0 + 40 + 2 + 1) c _ HLW.out.deck (by omega) (by omega) (by omega)).mono ?_
  rintro e w5 ⟨v5, rfl, hv5, ho, hD'⟩
  have HLW := Lib.hid (HLW.out.draw ho hD')
  clear ho hD'
  have HGF := Lib.hid (grow_facts (t := t) (n := 10 * v3) (m := 10 * v3 + q) (c := c) (k := 1 + v5) HV.out (by omega) (by omega) (by omega) (by omega) (by omega) (by omega) (by omega))
  have x0 := HLW.out.box.cell 0
  have x1 := HLW.out.box.cell 1
  have x2 := HLW.out.box.cell 2
  have x3 := HLW.out.box.cell 3
  have x4 := HLW.out.box.cell 4
  have x5 := HLW.out.box.cell 5
  have x6 := HLW.out.box.cell 6
  simp at x0 x1 x2 x3 x4 x5 x6
  go_wp2_with fail
  refine (annual_any t L _ _ HLW.out.rd (Nat.le_refl _) (10 * v3)).mono ?_
  rintro e w6 ⟨rfl, hb⟩
  have HLW := Lib.hid (HLW.out.calc_ hb)
  clear hb x0 x1 x2 x3 x4 x5 x6
  have x0 := HLW.out.box.cell 0
  have x1 := HLW.out.box.cell 1
  have x2 := HLW.out.box.cell 2
  have x3 := HLW.out.box.cell 3
  have x4 := HLW.out.box.cell 4
  have x5 := HLW.out.box.cell 5
  have x6 := HLW.out.box.cell 6
  simp at x0 x1 x2 x3 x4 x5 x6
  go_wp2_with fail
  refine (annual_any t L _ _ HLW.out.rd (Nat.le_refl _) (10 * v3 + q)).mono ?_
  rintro e w7 ⟨rfl, hb⟩
  have HLW := Lib.hid (HLW.out.calc_ hb)
  clear hb x0 x1 x2 x3 x4 x5 x6
  have x0 := HLW.out.box.cell 0
  have x1 := HLW.out.box.cell 1
  have x2 := HLW.out.box.cell 2
  have x3 := HLW.out.box.cell 3
  have x4 := HLW.out.box.cell 4
  have x5 := HLW.out.box.cell 5
  have x6 := HLW.out.box.cell 6
  simp at x0 x1 x2 x3 x4 x5 x6
  go_wp2_with fail
  refine (formula_any t L _ _ HLW.out.rd (Nat.le_refl _) (10 * v3) c).mono ?_
  rintro e w8 ⟨rfl, hb⟩
  have HLW := Lib.hid (HLW.out.calc_ hb)
  clear hb x0 x1 x2 x3 x4 x5 x6
  have x0 := HLW.out.box.cell 0
  have x1 := HLW.out.box.cell 1
  have x2 := HLW.out.box.cell 2
  have x3 := HLW.out.box.cell 3
  have x4 := HLW.out.box.cell 4
  have x5 := HLW.out.box.cell 5
  have x6 := HLW.out.box.cell 6
  simp at x0 x1 x2 x3 x4 x5 x6
  go_wp2_with fail
  refine (formula_any t L _ _ HLW.out.rd (Nat.le_refl _) (10 * v3 + q) c).mono ?_
  rintro e w9 ⟨rfl, hb⟩
  have HLW := Lib.hid (HLW.out.calc_ hb)
  clear hb x0 x1 x2 x3 x4 x5 x6
  have x0 := HLW.out.box.cell 0
  have x1 := HLW.out.box.cell 1
  have x2 := HLW.out.box.cell 2
  have x3 := HLW.out.box.cell 3
  have x4 := HLW.out.box.cell 4
  have x5 := HLW.out.box.cell 5
  have x6 := HLW.out.box.cell 6
  simp at x0 x1 x2 x3 x4 x5 x6
  go_wp2_with fail
  refine (due_any t L _ _ HLW.out.rd (Nat.le_refl _) c (1 + v5) (10 * v3)).mono ?_
  rintro e w10 ⟨rfl, hb⟩
  have HLW := Lib.hid (HLW.out.calc_ hb)
  clear hb x0 x1 x2 x3 x4 x5 x6
  have x0 := HLW.out.box.cell 0
  have x1 := HLW.out.box.cell 1
  have x2 := HLW.out.box.cell 2
  have x3 := HLW.out.box.cell 3
  have x4 := HLW.out.box.cell 4
  have x5 := HLW.out.box.cell 5
  have x6 := HLW.out.box.cell 6
  simp at x0 x1 x2 x3 x4 x5 x6
  go_wp2_with fail
  refine (due_any t L _ _ HLW.out.rd (Nat.le_refl _) c (1 + v5) (10 * v3 + q)).mono ?_
  rintro e w11 ⟨rfl, hb⟩
  have HLW := Lib.hid (HLW.out.calc_ hb)
  clear hb x0 x1 x2 x3 x4 x5 x6
  obtain ⟨g1, g2, g3, g4, g5, g6, g7, g8, g9, g10, g11, g12⟩ := HGF.out
  rw [g1, g2, g5, g6, g9, g10]
  clear g1 g2 g5 g6 g9 g10 HGF
  generalize annV t (10 * v3) = a1 at *
  generalize annV t (10 * v3 + q) = a2 at *
  generalize frmV t (10 * v3) c = a3 at *
  generalize frmV t (10 * v3 + q) c = a4 at *
  generalize dueV t c (1 + v5) (10 * v3) = a5 at *
  generalize dueV t c (1 + v5) (10 * v3 + q) = a6 at *
  have t1 : decide (a1 ≤ a2) = true := by simpa using g3
  have t2 : decide (a3 ≤ a4) = true := by simpa using g7
  have t3 : decide (a5 ≤ a6) = true := by simpa using g11
  have t4 : decide (0 ≤ a1) = true := by simpa using g4
  have t5 : decide (0 ≤ a3) = true := by simpa using g8
  have t6 : decide (0 ≤ a5) = true := by simpa using g12
  go_wp2_with fail
  refine (awake_any _).mono ?_
  rintro e w9 ⟨rfl, hb9⟩
  have HLW := Lib.hid (HLW.out.calc_ hb9)
  clear hb9
  go_wp2
  go_ret
  exact ⟨rfl, HLW.out.below⟩
end Go.Proofs.Ytcincmlpegnaiaa
