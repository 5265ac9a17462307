/-
  The plain law of chapter 10: which plans and presences are valid, to which shift a stay belongs, duties. No program in sight; no conditions.
-/
import Derived.Test.YtagkdkkpgcolkaaSh2
namespace Go.Proofs.Ytagkdkkpgcolkaa
set_option linter.unusedVariables false
set_option linter.unusedSimpArgs false
section
variable (o : Int) (zl : List (Int × Int)) (l : List T3)
/-- the span of the shift k -/
noncomputable def sA (k : Nat) : Int := spA o zl (tA l k) (tB l k) (tC l k)
noncomputable def sB (k : Nat) : Int := spB o zl (tA l k) (tB l k) (tC l k)
noncomputable def sE (k : Nat) : Int := spE o zl (tA l k) (tB l k) (tC l k)
/-- the error over the first k shifts -/
noncomputable def vTo : Nat → Int
  | 0 => 0
  | k + 1 => if vTo k = 0 then (if sE o zl l k = 0 then (if 0 < k ∧ sA o zl l k < sB o zl l (k - 1) then 1 else 0) else sE o zl l k) else vTo k
noncomputable def vE : Int := if 1024 < l.length then 3 else if zerr o zl = 0 then vTo o zl l l.length else zerr o zl
noncomputable def spL : Nat → List (Int × Int)
  | 0 => []
  | k + 1 => spL k ++ [(sA o zl l k, sB o zl l k)]
end
section
variable {o : Int} {zl : List (Int × Int)} {l : List T3}
theorem spL_len (k : Nat) : (spL o zl l k).length = k := by
  induction k with
  | zero => rfl
  | succ k ih => rw [spL, List.length_append, ih]; rfl
theorem spL_at (k : Nat) : ∀ i, i < k → fst2 (spL o zl l k) i = sA o zl l i ∧ snd2 (spL o zl l k) i = sB o zl l i := by
  induction k with
  | zero => intro i h; omega
  | succ k ih =>
    intro i h
    rw [spL]
    by_cases hi : i < k
    · have := ih i hi
      have hl := spL_len (o := o) (zl := zl) (l := l) k
      unfold fst2 snd2 at *
      simp only [List.getD_eq_getElem?_getD] at *
      rw [List.getElem?_append_left (by omega)]
      exact this
    · obtain rfl : i = k := by omega
      have hl := spL_len (o := o) (zl := zl) (l := l) i
      unfold fst2 snd2
      simp only [List.getD_eq_getElem?_getD]
      rw [List.getElem?_append_right (by omega), hl]
      simp
theorem vTo_stays (k : Nat) (h : vTo o zl l k ≠ 0) : ∀ d, vTo o zl l (k + d) = vTo o zl l k := by
  intro d
  induction d with
  | zero => rfl
  | succ d ih => rw [Nat.add_succ, vTo, if_neg (by rw [ih]; exact h), ih]
theorem vTo_err {k : Nat} {e : Int} (h0 : vTo o zl l k = 0) (he : vTo o zl l (k + 1) = e) (hn : e ≠ 0) (hk : k < l.length) : vTo o zl l l.length = e := by
  have h2 := vTo_stays (o := o) (zl := zl) (l := l) (k + 1) (by rw [he]; exact hn) (l.length - (k + 1))
  rw [show k + 1 + (l.length - (k + 1)) = l.length by omega, he] at h2
  exact h2
theorem vTo_span {k : Nat} (h0 : vTo o zl l k = 0) (hs : sE o zl l k ≠ 0) : vTo o zl l (k + 1) = sE o zl l k := by rw [vTo, if_pos h0, if_neg hs]
theorem vTo_over {k : Nat} (h0 : vTo o zl l k = 0) (hs : sE o zl l k = 0) (hk : 0 < k) (h : sA o zl l k < sB o zl l (k - 1)) : vTo o zl l (k + 1) = 1 := by rw [vTo, if_pos h0, if_pos hs, if_pos ⟨hk, h⟩]
theorem vTo_fine {k : Nat} (h0 : vTo o zl l k = 0) (hs : sE o zl l k = 0) (h : ¬ (0 < k ∧ sA o zl l k < sB o zl l (k - 1))) : vTo o zl l (k + 1) = 0 := by rw [vTo, if_pos h0, if_pos hs, if_neg h]
theorem vTo_pre (k : Nat) : ∀ d, vTo o zl l (k + d) = 0 → vTo o zl l k = 0 := by
  intro d h
  by_cases h0 : vTo o zl l k = 0
  · exact h0
  · rw [vTo_stays k h0 d] at h; exact h
theorem vTo_each {n : Nat} (h : vTo o zl l n = 0) (i : Nat) (hi : i < n) : sE o zl l i = 0 := by
  have h1 := vTo_pre (o := o) (zl := zl) (l := l) (i + 1) (n - (i + 1)) (by rw [show i + 1 + (n - (i + 1)) = n by omega]; exact h)
  have h0 := vTo_pre (o := o) (zl := zl) (l := l) i 1 h1
  rw [vTo, if_pos h0] at h1
  by_cases hs : sE o zl l i = 0
  · exact hs
  · rw [if_neg hs] at h1; exact h1
end
/-- the end of the shift before k, 0 for the first: what the reference keeps -/
noncomputable def endK (o : Int) (zl : List (Int × Int)) (l : List T3) : Nat → Int
  | 0 => 0
  | k + 1 => sB o zl l k

/-! ### To which shift a stay belongs -/
def absI (d : Int) : Int := max d (-d)
def canB (a b t early late : Int) : Prop := (-early ≤ t - a ∧ t - a ≤ late) ∨ (0 ≤ t - a ∧ t < b)
instance (a b t early late : Int) : Decidable (canB a b t early late) := by unfold canB; infer_instance
def blTo (S : List (Int × Int)) (t early late : Int) : Nat → Int × Int
  | 0 => (-1, 0)
  | k + 1 => if canB (fst2 S k) (snd2 S k) t early late ∧ ((blTo S t early late k).1 < 0 ∨ absI (t - fst2 S k) < (blTo S t early late k).2) then ((k : Int), absI (t - fst2 S k)) else blTo S t early late k
def blV (S : List (Int × Int)) (t early late : Int) : Int := (blTo S t early late S.length).1
theorem bl_bd (S : List (Int × Int)) (t early late : Int) (k : Nat) : -1 ≤ (blTo S t early late k).1 ∧ (blTo S t early late k).1 < k := by
  induction k with
  | zero => simp [blTo]
  | succ k ih =>
    rw [blTo]
    split
    · simp; omega
    · omega
theorem bl_near (S : List (Int × Int)) (t early late : Int) (k : Nat) : (0 ≤ (blTo S t early late k).1 → (blTo S t early late k).2 = absI (t - fst2 S (blTo S t early late k).1.toNat) ∧ canB (fst2 S (blTo S t early late k).1.toNat) (snd2 S (blTo S t early late k).1.toNat) t early late) ∧
    ∀ j, j < k → canB (fst2 S j) (snd2 S j) t early late → 0 ≤ (blTo S t early late k).1 ∧ (blTo S t early late k).2 ≤ absI (t - fst2 S j) := by
  induction k with
  | zero => simp [blTo]
  | succ k ih =>
    have hb := bl_bd S t early late k
    rw [blTo]
    split
    · rename_i hc
      refine ⟨fun _ => by simp; exact hc.1, fun j hj hcj => ?_⟩
      simp
      rcases Nat.lt_or_ge j k with hjk | hjk
      · have := ih.2 j hjk hcj
        rcases hc.2 with h | h
        · omega
        · omega
      · obtain rfl : j = k := by omega
        omega
    · rename_i hc
      refine ⟨ih.1, fun j hj hcj => ?_⟩
      rcases Nat.lt_or_ge j k with hjk | hjk
      · exact ih.2 j hjk hcj
      · obtain rfl : j = k := by omega
        have h1 : ¬ (blTo S t early late j).1 < 0 := fun h => hc ⟨hcj, .inl h⟩
        have h2 : ¬ absI (t - fst2 S j) < (blTo S t early late j).2 := fun h => hc ⟨hcj, .inr h⟩
        constructor <;> omega

/-! ### Presences and duties -/
abbrev Pr := Int × Int × List (Int × Int)
abbrev Du := Int × Int × List Pr
def pF (l : List Pr) (i : Nat) : Int := (l.getD i (0, 0, [])).1
def pT (l : List Pr) (i : Nat) : Int := (l.getD i (0, 0, [])).2.1
def pB (l : List Pr) (i : Nat) : List (Int × Int) := (l.getD i (0, 0, [])).2.2
/-- the end behind k breaks -/
def brE (s : Int) (l : List (Int × Int)) : Nat → Int
  | 0 => s
  | k + 1 => snd2 l k
def brOk (s e : Int) (l : List (Int × Int)) (k : Nat) : Prop := ∀ i, i < k → brE s l i ≤ fst2 l i ∧ fst2 l i < snd2 l i ∧ snd2 l i ≤ e
def prE (l : List Pr) : Nat → Int
  | 0 => 0
  | k + 1 => pT l k
def prOk1 (l : List Pr) (i : Nat) : Prop := prE l i ≤ pF l i ∧ pF l i < pT l i ∧ pT l i ≤ 120968640 ∧ (pB l i).length ≤ 1024 ∧ brOk (pF l i) (pT l i) (pB l i) (pB l i).length
def prOk (l : List Pr) (k : Nat) : Prop := ∀ i, i < k → prOk1 l i
open Classical in
noncomputable def prV (l : List Pr) : Int := if l.length ≤ 1024 ∧ prOk l l.length then 0 else 1
theorem prOk_succ {l : List Pr} {k : Nat} (h : prOk l k) (h1 : prOk1 l k) : prOk l (k + 1) := fun i hi => by
  rcases Nat.lt_or_ge i k with h2 | h2
  · exact h i h2
  · obtain rfl : i = k := by omega
    exact h1
theorem brOk_succ {s e : Int} {l : List (Int × Int)} {k : Nat} (h : brOk s e l k) (h1 : brE s l k ≤ fst2 l k ∧ fst2 l k < snd2 l k ∧ snd2 l k ≤ e) : brOk s e l (k + 1) := fun i hi => by
  rcases Nat.lt_or_ge i k with h2 | h2
  · exact h i h2
  · obtain rfl : i = k := by omega
    exact h1
theorem prV_bad {l : List Pr} {k : Nat} (hk : k < l.length) (h : ¬ prOk1 l k) : prV l = 1 := by
  unfold prV; rw [if_neg]; exact fun h2 => h (h2.2 k hk)
theorem prV_long {l : List Pr} (h : 1024 < l.length) : prV l = 1 := by unfold prV; rw [if_neg]; omega
theorem prV_ok {l : List Pr} (h0 : l.length ≤ 1024) (h : prOk l l.length) : prV l = 0 := by unfold prV; rw [if_pos ⟨h0, h⟩]
theorem prV_cases (l : List Pr) : prV l = 0 ∨ prV l = 1 := by unfold prV; split <;> simp
theorem prV_of {l : List Pr} (h : prV l = 0) : l.length ≤ 1024 ∧ prOk l l.length := by
  unfold prV at h
  split at h
  · assumption
  · cases h
theorem prE_nonneg {l : List Pr} {k : Nat} (h : prOk l k) (hk : k ≤ l.length) : 0 ≤ prE l k ∧ prE l k ≤ 120968640 := by
  induction k with
  | zero => simp [prE]
  | succ k ih =>
    have h1 := h k (by omega)
    have h2 := ih (fun i hi => h i (by omega)) (by omega)
    unfold prOk1 at h1
    rw [prE]
    omega
theorem pF_bd {l : List Pr} {k : Nat} (h : prOk l (k + 1)) (hk : k < l.length) : 0 ≤ pF l k ∧ pF l k ≤ 120968639 := by
  have h1 := h k (by omega)
  have h2 := prE_nonneg (fun i hi => h i (by omega) : prOk l k) (by omega)
  unfold prOk1 at h1
  omega
/-- the first duty with a key -/
def dIx : List Du → Int → Int → Nat
  | [], _, _ => 0
  | d :: t, s, y => if d.1 = s ∧ d.2.1 = y then 0 else dIx t s y + 1
theorem dIx_le (ds : List Du) (s y : Int) : dIx ds s y ≤ ds.length := by
  induction ds with
  | nil => simp [dIx]
  | cons d t ih => rw [dIx]; split <;> simp <;> omega
theorem dIx_key (ds : List Du) (s y : Int) (h : dIx ds s y < ds.length) : (ds.getD (dIx ds s y) (0, 0, [])).1 = s ∧ (ds.getD (dIx ds s y) (0, 0, [])).2.1 = y := by
  induction ds with
  | nil => simp [dIx] at h
  | cons d t ih =>
    rw [dIx] at h ⊢
    split
    · rename_i hc; simpa using hc
    · rename_i hc
      rw [if_neg hc] at h
      simp only [List.length_cons] at h
      simpa using ih (by omega)
theorem dIx_before (ds : List Du) (s y : Int) : ∀ i, i < dIx ds s y → ¬ ((ds.getD i (0, 0, [])).1 = s ∧ (ds.getD i (0, 0, [])).2.1 = y) := by
  induction ds with
  | nil => intro i h; simp [dIx] at h
  | cons d t ih =>
    intro i h
    rw [dIx] at h
    split at h
    · omega
    · rename_i hc
      cases i with
      | zero => simpa using hc
      | succ i => simpa using ih i (by omega)
def dAdd (ds : List Du) (s y : Int) (p : Pr) : List Du := if dIx ds s y < ds.length then ds.modify (dIx ds s y) (fun d => (d.1, d.2.1, d.2.2 ++ [p])) else ds ++ [(s, y, [p])]
/-- the key of a stay: the shift and the day -/
noncomputable def kS (S : List (Int × Int)) (t early late : Int) : Int := blV S t early late
noncomputable def kD (o : Int) (zl : List (Int × Int)) (l : List T3) (S : List (Int × Int)) (t early late : Int) : Int := if 0 ≤ blV S t early late then tA l (blV S t early late).toNat else dayR o zl t
noncomputable def asTo (o : Int) (zl : List (Int × Int)) (l : List T3) (S : List (Int × Int)) (early late : Int) (P : List Pr) : Nat → List Du
  | 0 => []
  | k + 1 => dAdd (asTo o zl l S early late P k) (kS S (pF P k) early late) (kD o zl l S (pF P k) early late) (P.getD k (0, 0, []))
end Go.Proofs.Ytagkdkkpgcolkaa
