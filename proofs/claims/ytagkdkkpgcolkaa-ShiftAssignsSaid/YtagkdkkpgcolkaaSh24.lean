/-
  The plain laws of chapter 10: how presences divide into duties, which shift is nearest, days without a plan. No program in sight; no conditions.
-/
import Derived.Test.YtagkdkkpgcolkaaSh13
namespace Go.Proofs.Ytagkdkkpgcolkaa
open Go.RowKit
set_option linter.unusedVariables false
set_option linter.unusedSimpArgs false
/-! ### Presences in order -/
theorem pr_before {P : List Pr} {n : Nat} (h : prOk P n) : ∀ k, k ≤ n → ∀ m, m < k → pT P m ≤ prE P k := by
  intro k
  induction k with
  | zero => intro _ m hm; omega
  | succ k ih =>
    intro hk m hm
    rw [prE]
    have h1 := h k (by omega)
    unfold prOk1 at h1
    rcases Nat.lt_or_ge m k with h2 | h2
    · have := ih (by omega) m h2
      omega
    · obtain rfl : m = k := by omega
      omega
theorem pr_order {P : List Pr} {n k m : Nat} (h : prOk P n) (hk : k < n) (hm : m < k) : pT P m ≤ pF P k ∧ pF P m < pT P m := by
  have h1 := pr_before h k (by omega) m hm
  have h2 := h k hk
  have h3 := h m (by omega)
  unfold prOk1 at h2 h3
  omega
/-! ### One presence more -/
theorem dAdd_cases (ds : List Du) (s y : Int) (p : Pr) :
    (∃ ix, ix < ds.length ∧ uS ds ix = s ∧ uD ds ix = y ∧ (dAdd ds s y p).length = ds.length ∧ ∀ i, uS (dAdd ds s y p) i = uS ds i ∧ uD (dAdd ds s y p) i = uD ds i ∧ uP (dAdd ds s y p) i = if i = ix then uP ds ix ++ [p] else uP ds i) ∨
    ((∀ i, i < ds.length → ¬ (uS ds i = s ∧ uD ds i = y)) ∧ (dAdd ds s y p).length = ds.length + 1 ∧ (∀ i, i < ds.length → uS (dAdd ds s y p) i = uS ds i ∧ uD (dAdd ds s y p) i = uD ds i ∧ uP (dAdd ds s y p) i = uP ds i) ∧ uS (dAdd ds s y p) ds.length = s ∧ uD (dAdd ds s y p) ds.length = y ∧ uP (dAdd ds s y p) ds.length = [p]) := by
  by_cases hlt : dIx ds s y < ds.length
  · left
    have hk := dIx_key ds s y hlt
    have e : dAdd ds s y p = ds.modify (dIx ds s y) (dTo p) := by rw [dAdd_eq, if_pos hlt]
    rw [e]
    exact ⟨_, hlt, hk.1, hk.2, by rw [List.length_modify], fun i => uP_mod p hlt i⟩
  · right
    have e : dAdd ds s y p = ds ++ [(s, y, [p])] := by unfold dAdd; rw [if_neg hlt]
    have hle := dIx_le ds s y
    rw [e]
    refine ⟨fun i hi => dIx_before ds s y i (by omega), by simp, fun i hi => uP_app hi, ?_⟩
    exact uP_end rfl
/-- how many presences the first i duties have -/
def cnt (ds : List Du) : Nat → Nat
  | 0 => 0
  | i + 1 => cnt ds i + (uP ds i).length
theorem cnt_same {ds ds' : List Du} : ∀ i, (∀ j, j < i → uP ds' j = uP ds j) → cnt ds' i = cnt ds i
  | 0, _ => rfl
  | i + 1, h => by rw [cnt, cnt, cnt_same i (fun j hj => h j (by omega)), h i (by omega)]
theorem cnt_one {ds ds' : List Du} {ix : Nat} {p : Pr} (h : ∀ j, uP ds' j = if j = ix then uP ds ix ++ [p] else uP ds j) : ∀ i, ix < i → cnt ds' i = cnt ds i + 1
  | 0, h0 => by omega
  | i + 1, h0 => by
    rw [cnt, cnt]
    by_cases e : i = ix
    · subst e
      have e1 : cnt ds' i = cnt ds i := cnt_same i (fun j hj => by rw [h j, if_neg (by omega)])
      rw [e1, h i, if_pos rfl, List.length_append]
      simp only [List.length_cons, List.length_nil]
      omega
    · rw [cnt_one h i (by omega), h i, if_neg e]; omega
theorem pG_app {l : List Pr} {p : Pr} {j : Nat} (hj : j < (l ++ [p]).length) : (j < l.length ∧ pF (l ++ [p]) j = pF l j ∧ pT (l ++ [p]) j = pT l j) ∨ (j = l.length ∧ pF (l ++ [p]) j = p.1 ∧ pT (l ++ [p]) j = p.2.1) := by
  rw [List.length_append] at hj
  simp only [List.length_cons, List.length_nil] at hj
  by_cases h : j < l.length
  · exact .inl ⟨h, (pB_app h).1, (pB_app h).2.1⟩
  · have : j = l.length := by omega
    exact .inr ⟨this, (pB_end this).1, (pB_end this).2.1⟩
/-! ### What holds of the duties of the first k presences -/
structure DivI (P : List Pr) (k : Nat) (ds : List Du) : Prop where
  ne : ∀ i, i < ds.length → 0 < (uP ds i).length
  asc : ∀ i, i + 1 < ds.length → pF (uP ds i) 0 < pF (uP ds (i + 1)) 0
  fnd : ∀ i j, i < ds.length → j < (uP ds i).length → ∃ m, m < k ∧ pF (uP ds i) j = pF P m ∧ pT (uP ds i) j = pT P m
  ord : ∀ i j, i < ds.length → j + 1 < (uP ds i).length → pT (uP ds i) j ≤ pF (uP ds i) (j + 1)
  cnt : cnt ds ds.length = k
theorem DivI.nil (P : List Pr) : DivI P 0 [] := ⟨fun i h => by simp at h, fun i h => by simp at h, fun i j h => by simp at h, fun i j h => by simp at h, rfl⟩
theorem DivI.next {P : List Pr} {k : Nat} {ds : List Du} (h : DivI P k ds) (hp : prOk P (k + 1)) (s y : Int) : DivI P (k + 1) (dAdd ds s y (P.getD k (0, 0, []))) := by
  have hF : ∀ i j, i < ds.length → j < (uP ds i).length → pT (uP ds i) j ≤ pF P k ∧ pF (uP ds i) j < pF P k := fun i j hi hj => by
    obtain ⟨m, hm, e1, e2⟩ := h.fnd i j hi hj
    have := pr_order hp (Nat.lt_succ_self k) hm
    rw [e1, e2]; omega
  rcases dAdd_cases ds s y (P.getD k (0, 0, [])) with ⟨ix, hix, _, _, hl, hu⟩ | ⟨_, hl, hu, _, _, he⟩
  · have hP : ∀ i, uP (dAdd ds s y (P.getD k (0, 0, []))) i = if i = ix then uP ds ix ++ [P.getD k (0, 0, [])] else uP ds i := fun i => (hu i).2.2
    refine ⟨fun i hi => ?_, fun i hi => ?_, fun i j hi hj => ?_, fun i j hi hj => ?_, ?_⟩
    · rw [hl] at hi
      rw [hP]
      split
      · simp
      · exact h.ne i hi
    · rw [hl] at hi
      have z : ∀ i, i < ds.length → pF (uP (dAdd ds s y (P.getD k (0, 0, []))) i) 0 = pF (uP ds i) 0 := fun i hi => by
        rw [hP]
        split
        · rename_i e; subst e; exact (pB_app (h.ne i hi)).1
        · rfl
      rw [z i (by omega), z (i + 1) hi]
      exact h.asc i hi
    · rw [hl] at hi
      rw [hP] at hj ⊢
      by_cases e : i = ix
      · subst e
        rw [if_pos rfl] at hj ⊢
        rcases pG_app hj with ⟨h1, h2, h3⟩ | ⟨h1, h2, h3⟩
        · obtain ⟨m, hm, e1, e2⟩ := h.fnd i j hi h1
          exact ⟨m, by omega, by rw [h2, e1], by rw [h3, e2]⟩
        · exact ⟨k, by omega, h2, h3⟩
      · rw [if_neg e] at hj ⊢
        obtain ⟨m, hm, e1, e2⟩ := h.fnd i j hi hj
        exact ⟨m, by omega, e1, e2⟩
    · rw [hl] at hi
      rw [hP] at hj ⊢
      by_cases e : i = ix
      · subst e
        rw [if_pos rfl] at hj ⊢
        rcases pG_app hj with ⟨h1, h2, h3⟩ | ⟨h1, h2, h3⟩
        · rw [h2, (pB_app (show j < (uP ds i).length by omega)).2.1]
          exact h.ord i j hi h1
        · rw [h2, (pB_app (show j < (uP ds i).length by omega)).2.1]
          exact (hF i j hi (by omega)).1
      · rw [if_neg e] at hj ⊢
        exact h.ord i j hi hj
    · rw [hl, cnt_one hP ds.length hix, h.cnt]
  · have hP : ∀ i, i < ds.length → uP (dAdd ds s y (P.getD k (0, 0, []))) i = uP ds i := fun i hi => (hu i hi).2.2
    refine ⟨fun i hi => ?_, fun i hi => ?_, fun i j hi hj => ?_, fun i j hi hj => ?_, ?_⟩
    · rw [hl] at hi
      by_cases e : i < ds.length
      · rw [hP i e]; exact h.ne i e
      · obtain rfl : i = ds.length := by omega
        rw [he]; simp
    · rw [hl] at hi
      rw [hP i (by omega)]
      by_cases e : i + 1 < ds.length
      · rw [hP _ e]; exact h.asc i e
      · have e1 : i + 1 = ds.length := by omega
        rw [e1, he]
        exact (hF i 0 (by omega) (h.ne i (by omega))).2
    · rw [hl] at hi
      by_cases e : i < ds.length
      · rw [hP i e] at hj ⊢
        obtain ⟨m, hm, e1, e2⟩ := h.fnd i j e hj
        exact ⟨m, by omega, e1, e2⟩
      · obtain rfl : i = ds.length := by omega
        rw [he] at hj ⊢
        obtain rfl : j = 0 := by simpa using hj
        exact ⟨k, by omega, rfl, rfl⟩
    · rw [hl] at hi
      by_cases e : i < ds.length
      · rw [hP i e] at hj ⊢
        exact h.ord i j e hj
      · obtain rfl : i = ds.length := by omega
        rw [he] at hj
        simp at hj
    · rw [hl, Go.Proofs.Ytagkdkkpgcolkaa.cnt, cnt_same ds.length hP, h.cnt, he]; rfl
section
variable {o : Int} {zl : List (Int × Int)} {l : List T3} {S : List (Int × Int)} {early late : Int} {P : List Pr}
theorem as_div (hp : prOk P P.length) : ∀ k, k ≤ P.length → DivI P k (asTo o zl l S early late P k)
  | 0, _ => DivI.nil P
  | k + 1, hk => (as_div hp k (by omega)).next (fun i hi => hp i (by omega)) _ _
/-! ### Duties and shifts -/
/-- the key of a duty is that of each of its presences -/
structure KeyI (o : Int) (zl : List (Int × Int)) (l : List T3) (S : List (Int × Int)) (early late : Int) (ds : List Du) : Prop where
  key : ∀ i j, i < ds.length → j < (uP ds i).length → uS ds i = kS S (pF (uP ds i) j) early late ∧ uD ds i = kD o zl l S (pF (uP ds i) j) early late
theorem as_key : ∀ k, KeyI o zl l S early late (asTo o zl l S early late P k)
  | 0 => ⟨fun i j h => by simp [asTo] at h⟩
  | k + 1 => by
    have h := as_key k
    rw [asTo]
    rcases dAdd_cases (asTo o zl l S early late P k) (kS S (pF P k) early late) (kD o zl l S (pF P k) early late) (P.getD k (0, 0, [])) with ⟨ix, hix, h1, h2, hl, hu⟩ | ⟨_, hl, hu, h1, h2, he⟩
    · refine ⟨fun i j hi hj => ?_⟩
      rw [hl] at hi
      rw [(hu i).1, (hu i).2.1, (hu i).2.2]
      rw [(hu i).2.2] at hj
      by_cases e : i = ix
      · subst e
        rw [if_pos rfl] at hj ⊢
        rcases pG_app hj with ⟨g1, g2, _⟩ | ⟨g1, g2, _⟩
        · rw [g2]; exact h.key i j hi g1
        · rw [g2, h1, h2]; exact ⟨rfl, rfl⟩
      · rw [if_neg e] at hj ⊢
        exact h.key i j hi hj
    · refine ⟨fun i j hi hj => ?_⟩
      rw [hl] at hi
      by_cases e : i < (asTo o zl l S early late P k).length
      · rw [(hu i e).2.2] at hj
        rw [(hu i e).1, (hu i e).2.1, (hu i e).2.2]
        exact h.key i j e hj
      · obtain rfl : i = (asTo o zl l S early late P k).length := by omega
        rw [he] at hj
        obtain rfl : j = 0 := by simpa using hj
        rw [h1, h2, he]
        exact ⟨rfl, rfl⟩
/-- the law of the nearest shift -/
theorem near_law {t : Int} {n : Nat} (hn : n < S.length) (hc : canB (fst2 S n) (snd2 S n) t early late) : 0 ≤ blV S t early late ∧ absI (t - fst2 S (blV S t early late).toNat) ≤ absI (t - fst2 S n) := by
  have h := bl_near S t early late S.length
  have h2 := h.2 n hn hc
  unfold blV
  refine ⟨h2.1, ?_⟩
  rw [← (h.1 h2.1).1]
  exact h2.2
/-! ### Without a plan -/
theorem dayR_mono {s t : Int} (hz : zerr o zl = 0) (hs : instOk s) (ht : instOk t) (h : s ≤ t) : dayR o zl s ≤ dayR o zl t := by
  have hV := zval_of hz
  have es : offE o zl s = 0 := (off_ok hz hs).1
  have et : offE o zl t = 0 := (off_ok hz ht).1
  unfold dayR
  rw [if_pos es, if_pos et]
  unfold dayV
  have h1 := (dayG_iff hV (dayL (segs o zl) s 0) s hs).1 (Int.le_refl _)
  have h2 := (dayG_iff hV (dayL (segs o zl) s 0) t ht).2 (by
    rcases h1 with h1 | ⟨x, a, b, c⟩
    · exact .inl h1
    · exact .inr ⟨x, a, by omega, c⟩)
  omega
theorem as_days (hz : zerr o zl = 0) (hp : prOk P P.length) : ∀ k, k ≤ P.length → (∀ i, i < (asTo o zl l [] early late P k).length → uS (asTo o zl l [] early late P k) i = -1) ∧ ∀ i, i + 1 < (asTo o zl l [] early late P k).length → uD (asTo o zl l [] early late P k) i < uD (asTo o zl l [] early late P k) (i + 1)
  | 0, _ => ⟨fun i h => by simp [asTo] at h, fun i h => by simp [asTo] at h⟩
  | k + 1, hk => by
    have ih := as_days hz hp k (by omega)
    have hdiv := as_div (o := o) (zl := zl) (l := l) (S := []) (early := early) (late := late) hp k (by omega)
    have hkey := as_key (o := o) (zl := zl) (l := l) (S := []) (early := early) (late := late) (P := P) k
    have hkS : kS [] (pF P k) early late = -1 := rfl
    have hkD : ∀ t, kD o zl l [] t early late = dayR o zl t := fun t => by unfold kD; rw [if_neg (by show ¬ (0 : Int) ≤ -1; omega)]
    have hbk := pF_bd (fun i hi => hp i (by omega) : prOk P (k + 1)) (by omega)
    rw [asTo]
    rcases dAdd_cases (asTo o zl l [] early late P k) (kS [] (pF P k) early late) (kD o zl l [] (pF P k) early late) (P.getD k (0, 0, [])) with ⟨ix, hix, h1, h2, hl, hu⟩ | ⟨hno, hl, hu, h1, h2, he⟩
    · refine ⟨fun i hi => ?_, fun i hi => ?_⟩
      · rw [(hu i).1]; exact ih.1 i (by omega)
      · rw [(hu i).2.1, (hu (i + 1)).2.1]; exact ih.2 i (by omega)
    · refine ⟨fun i hi => ?_, fun i hi => ?_⟩
      · by_cases e : i < (asTo o zl l [] early late P k).length
        · rw [(hu i e).1]; exact ih.1 i e
        · obtain rfl : i = (asTo o zl l [] early late P k).length := by omega
          rw [h1, hkS]
      · by_cases e : i + 1 < (asTo o zl l [] early late P k).length
        · rw [(hu i (by omega)).2.1, (hu (i + 1) e).2.1]; exact ih.2 i e
        · have e1 : i + 1 = (asTo o zl l [] early late P k).length := by omega
          have hi1 : i < (asTo o zl l [] early late P k).length := by omega
          rw [(hu i hi1).2.1, e1, h2]
          have hne := hno i hi1
          rw [hkS, hkD] at hne
          rw [hkD]
          have hs := ih.1 i hi1
          obtain ⟨m, hm, e2, _⟩ := hdiv.fnd i 0 hi1 (hdiv.ne i hi1)
          have hd := (hkey.key i 0 hi1 (hdiv.ne i hi1)).2
          rw [hkD, e2] at hd
          have ho := pr_order (fun i hi => hp i (by omega) : prOk P (k + 1)) (Nat.lt_succ_self k) hm
          have hbm := pF_bd (fun i hi => hp i (by omega) : prOk P (m + 1)) (by omega)
          have hmono := dayR_mono hz (s := pF P m) (t := pF P k) ⟨by omega, by omega⟩ ⟨by omega, by omega⟩ (by omega)
          have : ¬ uD (asTo o zl l [] early late P k) i = dayR o zl (pF P k) := fun h => hne ⟨hs, h⟩
          omega
end
/-! ### Plans that are made -/
/-- shifts with fields in range, of days that are not late -/
def PlanOk (l : List T3) : Prop := l.length ≤ 12 ∧ ∀ k, k < l.length → fldP (tA l k) (tB l k) (tC l k) ∧ tA l k ≤ 20474
theorem first_le {o : Int} {zl : List (Int × Int)} (hz : zerr o zl = 0) {loc : Int} (h0 : 0 ≤ loc) (h1 : loc ≤ 100000000) : firstV o zl loc ≤ loc + 840 := by
  have hV := zval_of hz
  refine (firstV_iff hV loc (loc + 840) ⟨by omega, by omega⟩).2 ⟨loc + 840, by omega, by omega, ?_⟩
  have := (lmin_bd hV (loc + 840)).1
  omega
theorem plan_sE {o : Int} {zl : List (Int × Int)} {l : List T3} (hz : zerr o zl = 0) (h : PlanOk l) {k : Nat} (hk : k < l.length) : sE o zl l k = 0 := by
  obtain ⟨h1, h2⟩ := h.2 k hk
  have h3 := first_le hz (loc := tA l k * 1440 + tB l k) (by unfold fldP at h1; omega) (by unfold fldP at h1; omega)
  unfold sE spE
  rw [if_pos hz, if_pos ⟨h1, by unfold fldP at h1; omega⟩]
theorem plan_vTo {o : Int} {zl : List (Int × Int)} {l : List T3} (hz : zerr o zl = 0) (h : PlanOk l) : ∀ k, k ≤ l.length → vTo o zl l k = 0 ∨ vTo o zl l k = 1
  | 0, _ => .inl rfl
  | k + 1, hk => by
    rw [vTo]
    have ih := plan_vTo hz h k (by omega)
    rw [if_pos (plan_sE hz h (show k < l.length by omega))]
    split
    · split <;> simp
    · exact ih
theorem plan_vE {o : Int} {zl : List (Int × Int)} {l : List T3} (hz : zerr o zl = 0) (h : PlanOk l) : vE o zl l = 0 ∨ vE o zl l = 1 := by
  unfold vE
  rw [if_neg (by have := h.1; omega), if_pos hz]
  exact plan_vTo hz h l.length (Nat.le_refl _)
theorem vE_nil {o : Int} {zl : List (Int × Int)} (hz : zerr o zl = 0) : vE o zl [] = 0 := by
  unfold vE
  rw [if_neg (by simp), if_pos hz]
  rfl
theorem asE_made {o : Int} {zl : List (Int × Int)} {l : List T3} {P : List Pr} {early late : Int} (hp : prV P = 0) (hel : 0 ≤ early ∧ early ≤ 1440 ∧ 0 ≤ late ∧ late ≤ 1440) : asE o zl l P early late = vE o zl l := by
  unfold asE
  rw [if_pos hel, hp]
  split
  · rename_i h; exact h.symm
  · rfl
end Go.Proofs.Ytagkdkkpgcolkaa
