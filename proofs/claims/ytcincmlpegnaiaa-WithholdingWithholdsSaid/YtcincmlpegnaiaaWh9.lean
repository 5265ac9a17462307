/-
  Chapter 30: the tariff of the examples; awake.
-/
import Derived.Test.YtcincmlpegnaiaaWh8a
import Derived.Test.YtcincmlpegnaiaaGen29
namespace Go.Proofs.Ytcincmlpegnaiaa
open Go.RowKit
set_option linter.unusedVariables false
set_option linter.unusedSimpArgs false

theorem Blk.new' {w : World} {g : Nat} {t : TypeId} {cs : Array Value} (hg : g = w.heap.size) : Blk (w.alloc (.cells cs t)) g t cs := hg ▸ Blk.new w t cs
/-- a tariff with one bracket, without a credit -/
def eT (m r al : Int) : TF := ⟨m, [(0, r)], al, 0, 1, 0, []⟩
theorem one_val {r : Int} (h0 : 0 ≤ r) (h1 : r ≤ 1000000) : Val [(0, r)] := by
  refine ⟨by simp, by simp, rfl, fun i hi => ?_⟩
  have e : i = 0 := by simp at hi; omega
  subst e
  exact ⟨fun h => by omega, by simp [fst2], by simpa [snd2] using h0, by simpa [snd2] using h1⟩
theorem eT_valid {m r al : Int} (hm : m = 2 ∨ m = 3) (h0 : 0 ≤ r) (h1 : r ≤ 1000000) (ha : 0 ≤ al) (ha1 : al ≤ 1000000000) : tvB (eT m r al) = true := by
  have hmB : mB (eT m r al) = true := by
    unfold mB
    rw [if_neg (by show ¬ m = 1; omega), if_pos (by show m = 2 ∨ m = 3; exact hm)]
    rfl
  unfold tvB
  rw [hmB, show (eT m r al).bk = [(0, r)] from rfl, valB_true (one_val h0 h1), show amtB (eT m r al).al = true from amt_iff.2 ⟨ha, ha1⟩, show amtB (eT m r al).cr = true from amt_iff.2 ⟨by show (0 : Int) ≤ 0; omega, by show (0 : Int) ≤ _; omega⟩]
  rfl
theorem one_ex {r n : Int} (hn : 0 ≤ n) : exL [(0, r)] n = r * n := by
  show exTo [(0, r)] n (0 + 1) = _
  rw [exTo_succ, exTo_zero, part_last (by simp)]
  show 0 + r * max (n - 0) 0 = _
  rw [show max (n - 0) 0 = n by omega]
  omega
theorem one_tax {r n : Int} (h0 : 0 ≤ r) (h1 : r ≤ 1000000) (hn : 0 ≤ n) (hn1 : n ≤ 1000000000000) : taxV [(0, r)] n 1 0 = r * n / 1000000 := by
  have h := tax_facts (un := 1) (mo := 0) (one_val h0 h1) hn hn1 (by omega) (by omega) (by omega) (by omega)
  rw [h.2.1, one_ex hn]
  unfold roundV
  have hu : upB (r * n / (1000000 * 1)) (r * n % (1000000 * 1)) (1000000 * 1) 0 = false := by unfold upB; simp
  rw [hu]
  simp
theorem one_tx {r al inc : Int} (h0 : 0 ≤ r) (h1 : r ≤ 1000000) (hn1 : max (inc - al) 0 ≤ 1000000000000) : txV [(0, r)] 1 0 al 0 inc = r * max (inc - al) 0 / 1000000 := by
  unfold txV
  rw [one_tax h0 h1 (by omega) hn1]
  have : 0 ≤ r * max (inc - al) 0 / 1000000 := Int.ediv_nonneg (Int.mul_nonneg h0 (by omega)) (by omega)
  omega
theorem one_sc (r k c : Int) : dd (sc [(0, r)] k c) = [(0, r)] := by simp [sc, dd]
theorem one_due {m r al c k tot : Int} (h0 : 0 ≤ r) (h1 : r ≤ 1000000) (hn1 : max (tot - al * k / c) 0 ≤ 1000000000000) : dueX (eT m r al) c k tot = r * max (tot - al * k / c) 0 / 1000000 := by
  unfold dueX
  show txV (dd (sc [(0, r)] k c)) 1 0 (al * k / c) (0 * k / c) tot = _
  rw [one_sc, show (0 : Int) * k / c = 0 by simp, one_tx h0 h1 hn1]
theorem awake_frm : frmV (eT 2 200000 1200) 600 12 = 100 ∧ frmE (eT 2 200000 1200) 600 12 = 0 := by
  have hv : tvB (eT 2 200000 1200) = true := eT_valid (.inl rfl) (by omega) (by omega) (by omega) (by omega)
  have h := if_ok (x := frmX (eT 2 200000 1200) 600 12) (c := 2) hv (show frmP 600 12 from ⟨by omega, by omega, by omega, by omega⟩)
  refine ⟨h.1.trans ?_, h.2⟩
  unfold frmX
  show txV [(0, 200000)] 1 0 1200 0 (600 * 12) / 12 = 100
  rw [one_tx (by omega) (by omega) (by omega)]
  omega
theorem awake_yr : yrE (eT 3 200000 1200) 12 [600, 0, 600] = 0 ∧ yrL (eT 3 200000 1200) 12 [600, 0, 600] = [100, -20, 100] := by
  have hv : tvB (eT 3 200000 1200) = true := eT_valid (.inr rfl) (by omega) (by omega) (by omega) (by omega)
  have he : yrE (eT 3 200000 1200) 12 [600, 0, 600] = 0 := yr_ok hv ⟨by omega, by omega, by simp⟩ (fun i hi => by
    have : i = 0 ∨ i = 1 ∨ i = 2 := by simp at hi; omega
    rcases this with rfl | rfl | rfl <;> rfl)
  refine ⟨he, ?_⟩
  unfold yrL
  rw [if_pos he]
  have d0 : dAt (eT 3 200000 1200) 12 [600, 0, 600] 0 = 0 := rfl
  have d1 : dAt (eT 3 200000 1200) 12 [600, 0, 600] 1 = 100 := by
    unfold dAt
    rw [if_neg (by omega), one_due (by omega) (by omega) (by simp [totTo, sumTo, at1]; omega)]
    simp [totTo, sumTo, at1]
    omega
  have d2 : dAt (eT 3 200000 1200) 12 [600, 0, 600] 2 = 80 := by
    unfold dAt
    rw [if_neg (by omega), one_due (by omega) (by omega) (by simp [totTo, sumTo, at1]; omega)]
    simp [totTo, sumTo, at1]
    omega
  have d3 : dAt (eT 3 200000 1200) 12 [600, 0, 600] 3 = 180 := by
    unfold dAt
    rw [if_neg (by omega), one_due (by omega) (by omega) (by simp [totTo, sumTo, at1]; omega)]
    simp [totTo, sumTo, at1]
    omega
  show yrTo _ _ _ 3 = _
  simp only [yrTo]
  rw [d0, d1, d2, d3]
  rfl
theorem rdP_one (w : World) (t : TypeId) (x y : Int) (g : Nat) (hg : g = w.heap.size) : RdP (w.alloc (.cells #[.int .i64 x, .int .i64 y] t)) (w.heap.size + 1) (some ⟨g, 0, none⟩) [(x, y)] := by
  subst hg
  intro _
  refine ⟨w.heap.size, 0, rfl, by omega, fun i j hi hj => ?_⟩
  have hi0 : i = 0 := by simp at hi; omega
  subst hi0
  rcases (show j = 0 ∨ j = 1 by omega) with rfl | rfl
  · rw [(Blk.new w t #[.int .i64 x, .int .i64 y]).cell]; rfl
  · rw [(Blk.new w t #[.int .i64 x, .int .i64 y]).cell]; rfl
def PlPost (m : Int) (w : World) (e : Ending) (w' : World) : Prop :=
  ∃ L : TL, e = .returned (.agg #[.int .i64 m, .slice L.Ab 1 L.nb, .int .i64 1200, .int .i64 0, .int .i64 1, .int .i64 0, .slice L.Ar 0 L.nr]) ∧ Below w.heap.size w w' ∧ RdT w' w'.heap.size L (eT m 200000 1200)
set_option maxHeartbeats 1600000 in
theorem plain_any (m : Int) (w : World) : Calls Try.prog 29 #[.int .i64 m] w (PlPost m w) := by
  go_enter Try.func29, Try.ntmps29
  go_wp2
  refine bodyPost_ret (v := .agg #[.int .i64 m, .slice (some ⟨w.heap.size + 1, 0, none⟩) 1 1, .int .i64 1200, .int .i64 0, .int .i64 1, .int .i64 0, .slice none 0 0]) (by simp [results, Try.results29, go_sem]) rfl ?_
  refine ⟨⟨some ⟨w.heap.size + 1, 0, none⟩, 1, none, 0⟩, rfl, ?_, ?_, ?_, by simp [eT], by simp [eT]⟩
  · repeat (first | exact Below.refl _ _ | refine Below.setCell ?_ (Nat.le_refl _) _ | refine Below.alloc ?_ (Nat.le_refl _) _ | refine Below.alloc ?_ (by simp) _)
  · exact Rd.more (rdP_one _ 54 0 200000 (w.heap.size + 1) (by simp)) (by simp)
  · exact Rd.none_

set_option maxHeartbeats 3200000 in
theorem awake_any (w : World) : Calls Try.prog 12 #[] w (RetB true w) := by
  have HP : Hid (∀ m W, Calls Try.prog 29 #[.int .i64 m] W (PlPost m W)) := Lib.hid plain_any
  go_enter Try.func12, Try.ntmps12
  go_wp2_with fail
  refine (HP.out 2 _).mono ?_
  rintro e w1 ⟨L1, rfl, hb1, hr1⟩
  have HF : Hid (Calls Try.prog 34 #[.agg #[.int .i64 2, .slice L1.Ab 1 L1.nb, .int .i64 1200, .int .i64 0, .int .i64 1, .int .i64 0, .slice L1.Ar 0 L1.nr], .int .i64 600, .int .i64 12] w1 (RetII 100 0 w1)) := Lib.hid (by
    have h := formula_any (eT 2 200000 1200) L1 w1.heap.size w1 hr1 (Nat.le_refl _) 600 12
    rw [awake_frm.1, awake_frm.2] at h
    exact h)
  have HB := Lib.hid hb1
  clear hb1 hr1
  go_wp2_with fail
  refine HF.out.mono ?_
  rintro e w2 ⟨rfl, hb2⟩
  have HB := Lib.hid (HB.out.trans (hb2.mono HB.out.size))
  clear hb2 HF
  go_wp2_with fail
  refine (HP.out 3 _).mono ?_
  rintro e w3 ⟨L3, rfl, hb3, hr3⟩
  have HB := Lib.hid (HB.out.trans (hb3.mono HB.out.size))
  have HY : Hid (∀ (o : Obj), o = .cells #[.int .i64 600, .int .i64 0, .int .i64 600] 3 → Calls Try.prog 26 #[.agg #[.int .i64 3, .slice L3.Ab 1 L3.nb, .int .i64 1200, .int .i64 0, .int .i64 1, .int .i64 0, .slice L3.Ar 0 L3.nr], .int .i64 12, .slice (some ⟨w3.heap.size, 0, none⟩) 3 3] (w3.alloc o) (fun e w' => ∃ A n, e = .returned (.tuple #[.slice A 3 n, .int .i64 0]) ∧ Below w3.heap.size w3 w' ∧ RdI w' w'.heap.size A [100, -20, 100])) := Lib.hid (fun o ho => by
    subst ho
    have hx : RdI (w3.alloc (.cells #[.int .i64 600, .int .i64 0, .int .i64 600] 3)) (w3.heap.size + 1) (some ⟨w3.heap.size, 0, none⟩) [600, 0, 600] := rdI_new w3 [600, 0, 600] 3
    have ha : Below w3.heap.size w3 (w3.alloc (.cells #[.int .i64 600, .int .i64 0, .int .i64 600] 3)) := (Below.refl _ _).alloc (Nat.le_refl _) _
    have h := year_any (eT 3 200000 1200) L3 (w3.alloc (.cells #[.int .i64 600, .int .i64 0, .int .i64 600] 3)) (hr3.calc_ ha) 12 (some ⟨w3.heap.size, 0, none⟩) 3 [600, 0, 600] (Rd.more hx (by simp)) (by simp)
    refine Calls.mono h ?_
    rintro e w' ⟨A, n, h1, h2, h3⟩
    rw [awake_yr.1, awake_yr.2] at h1
    rw [awake_yr.2] at h3
    exact ⟨A, n, h1, ha.trans (h2.mono ha.size), h3⟩)
  clear hb3 hr3
  go_wp2_with fail
  refine (HY.out _ rfl).mono ?_
  rintro e w4 ⟨A4, n4, rfl, hb4, hr4⟩
  have HB := Lib.hid (HB.out.trans (hb4.mono HB.out.size))
  obtain ⟨b, off, rfl, hb, e0⟩ := hr4.at_ (i := 0) (by simp)
  obtain ⟨b1, off1, hbe, _, e1⟩ := hr4.at_ (i := 1) (by simp)
  injection hbe with hbe
  injection hbe with hbe1 hbe2
  subst hbe1 hbe2
  obtain ⟨b1, off1, hbe, _, e2⟩ := hr4.at_ (i := 2) (by simp)
  injection hbe with hbe
  injection hbe with hbe1 hbe2
  subst hbe1 hbe2
  simp [at1] at e0 e1 e2
  clear hb4 hr4 HY HP
  go_wp2
  go_ret
  exact ⟨rfl, HB.out⟩
end Go.Proofs.Ytcincmlpegnaiaa
