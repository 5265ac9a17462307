/-
  Plain mathematics of scaled schedules: they are valid, and their tax is near the scaled tax. No program in sight; no conditions.
-/
import Derived.Test.YtcincmlpegnaiaaScale29
import Derived.Test.YtcincmlpegnaiaaExact29
namespace Go.Proofs.Ytcincmlpegnaiaa

def asc : List (Int × Int) → Prop
  | [] => True
  | [_] => True
  | a :: b :: t => a.1 < b.1 ∧ asc (b :: t)
def nd : List (Int × Int) → Prop
  | [] => True
  | [_] => True
  | a :: b :: t => a.1 ≤ b.1 ∧ nd (b :: t)
theorem fst2_cons (a : Int × Int) (t : List (Int × Int)) (i : Nat) : fst2 (a :: t) (i + 1) = fst2 t i := by simp [fst2]
theorem snd2_cons (a : Int × Int) (t : List (Int × Int)) (i : Nat) : snd2 (a :: t) (i + 1) = snd2 t i := by simp [snd2]
theorem fst2_head (a : Int × Int) (t : List (Int × Int)) : fst2 (a :: t) 0 = a.1 := by simp [fst2]
theorem snd2_head (a : Int × Int) (t : List (Int × Int)) : snd2 (a :: t) 0 = a.2 := by simp [snd2]
theorem nd_of : ∀ xs : List (Int × Int), (∀ i, i + 1 < xs.length → fst2 xs i ≤ fst2 xs (i + 1)) → nd xs
  | [], _ => trivial
  | [_], _ => trivial
  | a :: b :: t, h => by
    refine ⟨?_, nd_of (b :: t) (fun i hi => ?_)⟩
    · have := h 0 (by simp)
      rwa [fst2_head, fst2_cons, fst2_head] at this
    · have := h (i + 1) (by simp at hi ⊢; omega)
      rwa [fst2_cons, fst2_cons] at this
theorem asc_of : ∀ xs : List (Int × Int), (∀ i, i + 1 < xs.length → fst2 xs i < fst2 xs (i + 1)) → asc xs
  | [], _ => trivial
  | [_], _ => trivial
  | a :: b :: t, h => by
    refine ⟨?_, asc_of (b :: t) (fun i hi => ?_)⟩
    · have := h 0 (by simp)
      rwa [fst2_head, fst2_cons, fst2_head] at this
    · have := h (i + 1) (by simp at hi ⊢; omega)
      rwa [fst2_cons, fst2_cons] at this
theorem asc_at : ∀ (xs : List (Int × Int)), asc xs → ∀ i, i + 1 < xs.length → fst2 xs i < fst2 xs (i + 1)
  | [], _, i, hi => by simp at hi
  | [_], _, i, hi => by simp at hi
  | a :: b :: t, h, 0, hi => by rw [fst2_head, fst2_cons, fst2_head]; exact h.1
  | a :: b :: t, h, i + 1, hi => by rw [fst2_cons, fst2_cons]; exact asc_at (b :: t) h.2 i (by simp at hi ⊢; omega)
theorem dd_head : ∀ (a : Int × Int) (t : List (Int × Int)), ∃ h s, dd (a :: t) = h :: s ∧ h.1 = a.1
  | a, [] => ⟨a, [], rfl, rfl⟩
  | a, b :: t => by
    obtain ⟨h, s, e, eh⟩ := dd_head b t
    by_cases c : a.1 = b.1
    · exact ⟨h, s, by show (if a.1 = b.1 then _ else _) = _; rw [if_pos c]; exact e, by rw [eh, c]⟩
    · exact ⟨a, dd (b :: t), by show (if a.1 = b.1 then _ else _) = _; rw [if_neg c], rfl⟩
theorem dd_asc : ∀ xs : List (Int × Int), nd xs → asc (dd xs)
  | [], _ => trivial
  | [_], _ => trivial
  | a :: b :: t, h => by
    have ih := dd_asc (b :: t) h.2
    show asc (if a.1 = b.1 then dd (b :: t) else a :: dd (b :: t))
    by_cases c : a.1 = b.1
    · rw [if_pos c]; exact ih
    · rw [if_neg c]
      obtain ⟨hd, s, e, eh⟩ := dd_head b t
      rw [e] at ih ⊢
      exact ⟨by rw [eh]; have := h.1; omega, ih⟩
theorem dd_self : ∀ xs : List (Int × Int), asc xs → dd xs = xs
  | [], _ => rfl
  | [_], _ => rfl
  | a :: b :: t, h => by
    show (if a.1 = b.1 then dd (b :: t) else a :: dd (b :: t)) = _
    rw [if_neg (by have := h.1; omega), dd_self (b :: t) h.2]
theorem dd_mem : ∀ (xs : List (Int × Int)) (p : Int × Int), p ∈ dd xs → p ∈ xs
  | [], p, h => h
  | [_], p, h => h
  | a :: b :: t, p, h => by
    have ih := dd_mem (b :: t) p
    have h' : p ∈ (if a.1 = b.1 then dd (b :: t) else a :: dd (b :: t)) := h
    by_cases c : a.1 = b.1
    · rw [if_pos c] at h'; exact List.mem_cons_of_mem _ (ih h')
    · rw [if_neg c, List.mem_cons] at h'
      rcases h' with e | e
      · rw [e]; exact List.mem_cons_self
      · exact List.mem_cons_of_mem _ (ih e)
theorem get_mem (s : List (Int × Int)) (i : Nat) (h : i < s.length) : (fst2 s i, snd2 s i) ∈ s := by
  have : (fst2 s i, snd2 s i) = s[i] := by simp [fst2, snd2, h]
  rw [this]
  exact List.getElem_mem h
theorem mem_get (s : List (Int × Int)) (p : Int × Int) (h : p ∈ s) : ∃ i, i < s.length ∧ p = (fst2 s i, snd2 s i) := by
  obtain ⟨i, hi, e⟩ := List.getElem_of_mem h
  exact ⟨i, hi, by rw [← e]; simp [fst2, snd2, hi]⟩
theorem sc_fst (l : List (Int × Int)) (num den : Int) (i : Nat) (h : i < l.length) : fst2 (sc l num den) i = fst2 l i * num / den := by simp [sc, fst2, h]
theorem sc_snd (l : List (Int × Int)) (num den : Int) (i : Nat) (h : i < l.length) : snd2 (sc l num den) i = snd2 l i := by simp [sc, snd2, h]
theorem sc_nd {l : List (Int × Int)} {num den : Int} (h : Val l) (hs : scOk num den) : ∀ i, i + 1 < (sc l num den).length → fst2 (sc l num den) i ≤ fst2 (sc l num den) (i + 1) := by
  intro i hi
  rw [sc_length] at hi
  rw [sc_fst _ _ _ _ (by omega), sc_fst _ _ _ _ hi]
  exact Int.ediv_le_ediv (by have := hs.1; omega) (Int.mul_le_mul_of_nonneg_right (val_mono h i hi) hs.2.2.1)
theorem sc_bd {l : List (Int × Int)} {num den : Int} (h : Val l) (hs : scOk num den) (i : Nat) (hi : i < l.length) : 0 ≤ fst2 (sc l num den) i ∧ fst2 (sc l num den) i ≤ 1000000000000 := by
  obtain ⟨h1, h2, h3, h4⟩ := hs
  have hf := val_from h i hi
  rw [sc_fst _ _ _ _ hi]
  refine ⟨Int.ediv_nonneg (Int.mul_nonneg hf.1 h3) (by omega), ?_⟩
  have h5 : fst2 l i * num ≤ fst2 l i * den := Int.mul_le_mul_of_nonneg_left h4 hf.1
  have h6 : fst2 l i * num / den ≤ fst2 l i * den / den := Int.ediv_le_ediv (by omega) h5
  rw [Int.mul_ediv_cancel _ (by omega)] at h6
  omega
theorem scale_val {l : List (Int × Int)} {num den : Int} (h : Val l) (hs : scOk num den) : Val (dd (sc l num den)) := by
  obtain ⟨a, t, ha⟩ : ∃ a t, sc l num den = a :: t := by
    cases e : sc l num den with
    | nil => have := sc_length l num den; rw [e] at this; simp at this; have := h.1; omega
    | cons a t => exact ⟨a, t, rfl⟩
  have hasc := dd_asc _ (nd_of _ (sc_nd h hs))
  have hlen : (dd (sc l num den)).length ≤ l.length := by
    have : ∀ xs : List (Int × Int), (dd xs).length ≤ xs.length := fun xs => by
      induction xs with
      | nil => simp [dd]
      | cons a t ih =>
        cases t with
        | nil => simp [dd]
        | cons b t =>
          show (if a.1 = b.1 then dd (b :: t) else a :: dd (b :: t)).length ≤ _
          split
          · simp at ih ⊢; omega
          · simp at ih ⊢; omega
    have := this (sc l num den)
    rwa [sc_length] at this
  obtain ⟨hd, s, e, eh⟩ := dd_head a t
  rw [← ha] at e
  have h0 : a.1 = 0 := by
    have h1 := sc_fst l num den 0 (by have := h.1; omega)
    rw [ha, fst2_head, h.2.2.1] at h1
    simpa using h1
  refine ⟨by rw [e]; simp, by have := h.2.1; omega, by rw [e, fst2_head, eh, h0], fun i hi => ?_⟩
  have hm := dd_mem _ _ (get_mem _ i hi)
  obtain ⟨j, hj, ej⟩ := mem_get _ _ hm
  rw [sc_length] at hj
  injection ej with ej1 ej2
  have hb := sc_bd h hs j hj
  have hr := val_rate h j hj
  rw [sc_snd _ _ _ _ hj] at ej2
  refine ⟨fun hp => ?_, by omega, by omega, by omega⟩
  have := asc_at _ hasc (i - 1) (by omega)
  rwa [show i - 1 + 1 = i by omega] at this
theorem scale_one {l : List (Int × Int)} {den : Int} (h : Val l) (hd : 1 ≤ den) : dd (sc l den den) = l := by
  have e : sc l den den = l := by
    unfold sc
    have : ∀ p : Int × Int, (p.1 * den / den, p.2) = p := fun p => by rw [Int.mul_ediv_cancel _ (by omega)]
    simp only [this]
    exact List.map_id' l
  rw [e]
  exact dd_self l (asc_of l (fun i hi => val_step h i hi))

/-- the tax by recursion -/
def exR : List (Int × Int) → Int → Int
  | [], _ => 0
  | [a], n => a.2 * max (n - a.1) 0
  | a :: b :: t, n => a.2 * max (min n b.1 - a.1) 0 + exR (b :: t) n
theorem exR_eq : ∀ (xs : List (Int × Int)) (n : Int), exL xs n = exR xs n
  | [], n => rfl
  | [a], n => by
    show sumTo (fun i => snd2 [a] i * partF [a] n i) 1 = _
    simp only [sumTo, exR]
    rw [part_last (by simp), fst2_head, snd2_head]; omega
  | a :: b :: t, n => by
    have ih := exR_eq (b :: t) n
    show sumTo (fun i => snd2 (a :: b :: t) i * partF (a :: b :: t) n i) (t.length + 1 + 1) = _
    rw [sumTo_shift, part_mid (by simp), fst2_cons, fst2_head, fst2_head, snd2_head]
    simp only [exR]
    rw [← ih]
    congr 1
    show _ = sumTo (fun i => snd2 (b :: t) i * partF (b :: t) n i) (t.length + 1)
    refine sumTo_congr _ (fun i hi => ?_)
    rw [snd2_cons]
    congr 1
    by_cases hc : i + 1 < (b :: t).length
    · rw [part_mid hc, part_mid (by simp at hc ⊢; omega), fst2_cons a (b :: t) (i + 1), fst2_cons a (b :: t) i]
    · rw [part_last hc, part_last (by simp at hc ⊢; omega), fst2_cons a (b :: t) i]
theorem exR_dd : ∀ (xs : List (Int × Int)) (n : Int), exR (dd xs) n = exR xs n
  | [], n => rfl
  | [_], n => rfl
  | a :: b :: t, n => by
    have ih := exR_dd (b :: t) n
    show exR (if a.1 = b.1 then dd (b :: t) else a :: dd (b :: t)) n = _
    simp only [exR]
    by_cases c : a.1 = b.1
    · rw [if_pos c, ih]
      have : max (min n b.1 - a.1) 0 = 0 := by omega
      rw [this]; omega
    · rw [if_neg c]
      obtain ⟨h, s, e, eh⟩ := dd_head b t
      rw [e] at ih ⊢
      simp only [exR]
      rw [ih, eh]

theorem mul_max0 {c a : Int} (hc : 0 ≤ c) : c * max a 0 = max (c * a) 0 := by
  rcases Int.le_total 0 a with h | h
  · have := Int.mul_nonneg hc h
    rw [show max a 0 = a by omega]; omega
  · have := Int.mul_nonneg hc (show 0 ≤ -a by omega)
    rw [Int.mul_neg] at this
    rw [show max a 0 = 0 by omega]; omega
theorem mul_min2 {c a b : Int} (hc : 0 ≤ c) : c * min a b = min (c * a) (c * b) := by
  rcases Int.le_total a b with h | h
  · have := Int.mul_le_mul_of_nonneg_left h hc
    rw [show min a b = a by omega]; omega
  · have := Int.mul_le_mul_of_nonneg_left h hc
    rw [show min a b = b by omega]; omega

/-- one bracket: the scaled part is near the part scaled -/
theorem part_near {l : List (Int × Int)} {num den n x : Int} (hs : scOk num den) (hx : den * x = num * n) (i : Nat) (hi : i < l.length) :
    den * partF (sc l num den) x i - num * partF l n i ≤ den ∧ num * partF l n i - den * partF (sc l num den) x i ≤ den := by
  obtain ⟨h1, h2, h3, h4⟩ := hs
  have d0 : 0 ≤ den := by omega
  have fl : ∀ y : Int, y * num - den < den * (y * num / den) ∧ den * (y * num / den) ≤ y * num := fun y => by
    have a1 := Int.mul_ediv_add_emod (y * num) den
    have a2 := Int.emod_nonneg (y * num) (show den ≠ 0 by omega)
    have a3 := Int.emod_lt_of_pos (y * num) (show 0 < den by omega)
    omega
  have f0 := fl (fst2 l i)
  by_cases hc : i + 1 < l.length
  · have f1 := fl (fst2 l (i + 1))
    rw [part_mid hc, part_mid (by rw [sc_length]; exact hc), sc_fst _ _ _ _ hi, sc_fst _ _ _ _ hc, mul_max0 d0, mul_max0 h3, Int.mul_sub, Int.mul_sub, mul_min2 d0, mul_min2 h3, hx]
    rw [Int.mul_comm num (fst2 l i), Int.mul_comm num (fst2 l (i + 1))]
    omega
  · rw [part_last hc, part_last (by rw [sc_length]; exact hc), sc_fst _ _ _ _ hi, mul_max0 d0, mul_max0 h3, Int.mul_sub, Int.mul_sub, hx]
    rw [Int.mul_comm num (fst2 l i)]
    omega
theorem scale_near {l : List (Int × Int)} {num den n x : Int} (h : Val l) (hs : scOk num den) (hx : den * x = num * n) : ∀ k, k ≤ l.length →
    exTo (sc l num den) x k * den - exTo l n k * num ≤ k * (den * 1000000) ∧ exTo l n k * num - exTo (sc l num den) x k * den ≤ k * (den * 1000000)
  | 0, _ => by simp [exTo_zero]
  | k + 1, hk => by
    have ih := scale_near h hs hx k (by omega)
    have hp := part_near (l := l) (n := n) (x := x) hs hx k (by omega)
    have hr := val_rate h k (by omega)
    have d0 : 0 ≤ den := by have := hs.1; omega
    rw [exTo_succ, exTo_succ, sc_snd l num den k (by omega)]
    generalize partF (sc l num den) x k = a at *
    generalize partF l n k = b at *
    generalize exTo (sc l num den) x k = ea at *
    generalize exTo l n k = eb at *
    generalize snd2 l k = r at *
    have e1 : (ea + r * a) * den - (eb + r * b) * num = (ea * den - eb * num) + r * (den * a - num * b) := by
      rw [Int.add_mul, Int.add_mul, Int.mul_sub, Int.mul_assoc, Int.mul_assoc, Int.mul_comm a den, Int.mul_comm b num]; omega
    have e2 : (eb + r * b) * num - (ea + r * a) * den = (eb * num - ea * den) + r * (num * b - den * a) := by
      rw [Int.add_mul, Int.add_mul, Int.mul_sub, Int.mul_assoc, Int.mul_assoc, Int.mul_comm a den, Int.mul_comm b num]; omega
    have b1 : r * (den * a - num * b) ≤ den * 1000000 := by
      have h1 : r * (den * a - num * b) ≤ r * den := Int.mul_le_mul_of_nonneg_left hp.1 hr.1
      have h2 : r * den ≤ 1000000 * den := Int.mul_le_mul_of_nonneg_right hr.2 d0
      omega
    have b2 : r * (num * b - den * a) ≤ den * 1000000 := by
      have h1 : r * (num * b - den * a) ≤ r * den := Int.mul_le_mul_of_nonneg_left hp.2 hr.1
      have h2 : r * den ≤ 1000000 * den := Int.mul_le_mul_of_nonneg_right hr.2 d0
      omega
    have e3 : ((k + 1 : Nat) : Int) * (den * 1000000) = k * (den * 1000000) + den * 1000000 := by
      rw [show ((k + 1 : Nat) : Int) = (k : Int) + 1 by omega, Int.add_mul, Int.one_mul]
    rw [e1, e2, e3]
    omega
theorem scale_near_all {l : List (Int × Int)} {num den n x : Int} (h : Val l) (hs : scOk num den) (hx : den * x = num * n) :
    exL (dd (sc l num den)) x * den - exL l n * num ≤ l.length * (den * 1000000) ∧ exL l n * num - exL (dd (sc l num den)) x * den ≤ l.length * (den * 1000000) := by
  have e : exL (dd (sc l num den)) x = exTo (sc l num den) x l.length := by
    rw [exR_eq, exR_dd, ← exR_eq]
    unfold exL
    rw [sc_length]
  rw [e]
  exact scale_near h hs hx l.length (Nat.le_refl _)
end Go.Proofs.Ytcincmlpegnaiaa
