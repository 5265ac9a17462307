/-
  Plain mathematics of progressive tax schedules. No program in sight; no conditions.
-/
namespace Go.Proofs.Ytcincmlpegnaiaa

def sumTo (f : Nat → Int) : Nat → Int
  | 0 => 0
  | k + 1 => sumTo f k + f k

theorem sumTo_congr {f g : Nat → Int} : ∀ k, (∀ i, i < k → f i = g i) → sumTo f k = sumTo g k
  | 0, _ => rfl
  | k + 1, h => by
    simp only [sumTo]
    rw [sumTo_congr k fun i hi => h i (by omega), h k (by omega)]
theorem sumTo_nonneg {f : Nat → Int} : ∀ k, (∀ i, i < k → 0 ≤ f i) → 0 ≤ sumTo f k
  | 0, _ => by simp [sumTo]
  | k + 1, h => by
    have := sumTo_nonneg k fun i hi => h i (by omega)
    have := h k (by omega)
    simp only [sumTo]; omega
theorem sumTo_shift (f : Nat → Int) : ∀ k, sumTo f (k + 1) = f 0 + sumTo (fun i => f (i + 1)) k
  | 0 => by simp [sumTo]
  | k + 1 => by
    have := sumTo_shift f k
    simp only [sumTo] at this ⊢
    omega
theorem sumTo_mono_len {f : Nat → Int} (j : Nat) : ∀ k, j ≤ k → (∀ i, i < k → 0 ≤ f i) → sumTo f j ≤ sumTo f k
  | 0, h, _ => by have : j = 0 := by omega
                  subst this; exact Int.le_refl _
  | k + 1, h, hn => by
    by_cases e : j = k + 1
    · subst e; exact Int.le_refl _
    · have := sumTo_mono_len j k (by omega) fun i hi => hn i (by omega)
      have := hn k (by omega)
      simp only [sumTo]; omega

/-- the part of an income in bracket i; the tax -/
def pt (F : Nat → Int) (m : Nat) (n : Int) (i : Nat) : Int := max ((if i + 1 < m then min n (F (i + 1)) else n) - F i) 0
def ex (F R : Nat → Int) (m : Nat) (n : Int) : Int := sumTo (fun i => R i * pt F m n i) m
def margTo (F R : Nat → Int) (n : Int) : Nat → Int
  | 0 => 0
  | k + 1 => if F k ≤ n then R k else margTo F R n k

section
variable {F R : Nat → Int} {m : Nat} {n n' M : Int}

theorem pt_nonneg (i : Nat) : 0 ≤ pt F m n i := by unfold pt; omega
theorem pt_le (i : Nat) (h : 0 ≤ F i) (hn : 0 ≤ n) : pt F m n i ≤ n := by unfold pt; split <;> omega

theorem sum_pt (hs : ∀ i, i + 1 < m → F i ≤ F (i + 1)) (h0 : F 0 = 0) (hn : 0 ≤ n) : ∀ k, k < m → sumTo (pt F m n) k = min n (F k)
  | 0, _ => by simp only [sumTo]; omega
  | k + 1, hk => by
    have ih := sum_pt hs h0 hn k (by omega)
    have := hs k hk
    simp only [sumTo]
    rw [ih]
    unfold pt
    rw [if_pos hk]
    omega
theorem sum_pt_all (hs : ∀ i, i + 1 < m → F i ≤ F (i + 1)) (h0 : F 0 = 0) (hn : 0 ≤ n) (hm : 0 < m) : sumTo (pt F m n) m = n := by
  obtain ⟨k, rfl⟩ : ∃ k, m = k + 1 := ⟨m - 1, by omega⟩
  have := sum_pt hs h0 hn k (by omega)
  simp only [sumTo]
  rw [this]
  unfold pt
  rw [if_neg (by omega)]
  omega
theorem full_before (i : Nat) (hs : F i ≤ F (i + 1)) (hi : i + 1 < m) (hp : 0 < pt F m n (i + 1)) : pt F m n i = F (i + 1) - F i := by
  unfold pt at hp ⊢
  rw [if_pos hi]
  split at hp <;> omega

theorem sum_le_mul : ∀ k, (∀ i, i < k → 0 ≤ R i ∧ R i ≤ M) → (0 ≤ sumTo (fun i => R i * pt F m n i) k ∧ sumTo (fun i => R i * pt F m n i) k ≤ M * sumTo (pt F m n) k)
  | 0, _ => by simp [sumTo]
  | k + 1, h => by
    obtain ⟨h1, h2⟩ := sum_le_mul k fun i hi => h i (by omega)
    have hk := h k (by omega)
    have hp := pt_nonneg (F := F) (m := m) (n := n) k
    have ha : 0 ≤ R k * pt F m n k := Int.mul_nonneg hk.1 hp
    have hb : R k * pt F m n k ≤ M * pt F m n k := Int.mul_le_mul_of_nonneg_right hk.2 hp
    simp only [sumTo]
    rw [Int.mul_add]
    omega

theorem ex_bound (hs : ∀ i, i + 1 < m → F i ≤ F (i + 1)) (h0 : F 0 = 0) (hn : 0 ≤ n) (hm : 0 < m) (hr : ∀ i, i < m → 0 ≤ R i ∧ R i ≤ M) : 0 ≤ ex F R m n ∧ ex F R m n ≤ M * n := by
  have := sum_le_mul (F := F) (m := m) (n := n) m hr
  rw [sum_pt_all hs h0 hn hm] at this
  exact this

theorem ex_zero (hs : ∀ i, i + 1 < m → F i ≤ F (i + 1)) (hp : ∀ i, i < m → 0 ≤ F i) : ex F R m 0 = 0 := by
  have : ∀ k, k ≤ m → sumTo (fun i => R i * pt F m 0 i) k = 0 := by
    intro k
    induction k with
    | zero => intro _; rfl
    | succ k ih =>
      intro hk
      have hz : pt F m 0 k = 0 := by
        have := hp k (by omega)
        unfold pt
        split
        · have := hs k (by assumption); omega
        · omega
      simp only [sumTo]
      rw [ih (by omega), hz]
      simp
  exact this m (Nat.le_refl _)

theorem ex_step (hs : ∀ i, i + 1 < m → F i ≤ F (i + 1)) (h0 : F 0 = 0) (hn : 0 ≤ n) (hm : 0 < m) : ex F R m (n + 1) = ex F R m n + margTo F R n m := by
  have key : ∀ k, k ≤ m → sumTo (fun i => R i * pt F m (n + 1) i) k = sumTo (fun i => R i * pt F m n i) k + (if k < m ∧ F k ≤ n then 0 else margTo F R n k) := by
    intro k
    induction k with
    | zero =>
      intro _
      rw [if_pos ⟨hm, by omega⟩]
      rfl
    | succ k ih =>
      intro hk
      have ih := ih (by omega)
      simp only [sumTo, margTo]
      rw [ih]
      by_cases hF : F k ≤ n
      · rw [if_pos ⟨by omega, hF⟩, if_pos hF]
        by_cases hc : k + 1 < m ∧ F (k + 1) ≤ n
        · rw [if_pos hc]
          have : pt F m (n + 1) k = pt F m n k := by
            unfold pt
            rw [if_pos hc.1, if_pos hc.1]; omega
          rw [this]; omega
        · rw [if_neg hc]
          have : pt F m (n + 1) k = pt F m n k + 1 := by
            unfold pt
            by_cases h1 : k + 1 < m
            · rw [if_pos h1, if_pos h1]
              have : n < F (k + 1) := by
                rcases Int.lt_or_le n (F (k + 1)) with h | h
                · exact h
                · exact absurd ⟨h1, h⟩ hc
              omega
            · rw [if_neg h1, if_neg h1]; omega
          rw [this, Int.mul_add]; omega
      · rw [if_neg (by omega), if_neg hF]
        have h2 : pt F m (n + 1) k = pt F m n k := by
          unfold pt
          split
          · have := hs k (by assumption); omega
          · omega
        have h3 : ¬ (k + 1 < m ∧ F (k + 1) ≤ n) := by
          rintro ⟨h1, h2⟩
          have := hs k h1
          omega
        rw [h2, if_neg h3]; omega
  have := key m (Nat.le_refl _)
  rw [if_neg (by omega)] at this
  exact this

theorem marg_bd (hM : 0 ≤ M) : ∀ k, (∀ i, i < k → 0 ≤ R i ∧ R i ≤ M) → 0 ≤ margTo F R n k ∧ margTo F R n k ≤ M
  | 0, _ => by simp [margTo, hM]
  | k + 1, h => by
    simp only [margTo]
    split
    · exact h k (by omega)
    · exact marg_bd hM k fun i hi => h i (by omega)

theorem ex_add (hs : ∀ i, i + 1 < m → F i ≤ F (i + 1)) (h0 : F 0 = 0) (hn : 0 ≤ n) (hm : 0 < m) (hM : 0 ≤ M) (hr : ∀ i, i < m → 0 ≤ R i ∧ R i ≤ M) :
    ∀ k : Nat, 0 ≤ ex F R m (n + k) - ex F R m n ∧ ex F R m (n + k) - ex F R m n ≤ M * k
  | 0 => by simp
  | k + 1 => by
    have ih := ex_add hs h0 hn hm hM hr k
    have h1 := ex_step (R := R) (n := n + k) hs h0 (by omega) hm
    have h2 := marg_bd (F := F) (R := R) (n := n + k) hM m hr
    have e : n + ((k + 1 : Nat) : Int) = n + k + 1 := by omega
    have e2 : M * ((k + 1 : Nat) : Int) = M * k + M := by rw [show ((k + 1 : Nat) : Int) = (k : Int) + 1 by omega, Int.mul_add, Int.mul_one]
    rw [e, h1, e2]; omega
theorem ex_mono (hs : ∀ i, i + 1 < m → F i ≤ F (i + 1)) (h0 : F 0 = 0) (hn : 0 ≤ n) (hm : 0 < m) (hM : 0 ≤ M) (hr : ∀ i, i < m → 0 ≤ R i ∧ R i ≤ M) (hle : n ≤ n') :
    ex F R m n ≤ ex F R m n' ∧ ex F R m n' - ex F R m n ≤ (n' - n) * M := by
  have := ex_add hs h0 hn hm hM hr (n' - n).toNat
  rw [show n + ((n' - n).toNat : Int) = n' by omega, show (((n' - n).toNat : Nat) : Int) = n' - n by omega, Int.mul_comm] at this
  omega

theorem marg_top (ha : ∀ i, i + 1 < m → R i ≤ R (i + 1)) (hr : ∀ i, i < m → 0 ≤ R i) : ∀ k, k < m → margTo F R n k ≤ R k
  | 0, h => by simpa [margTo] using hr 0 h
  | k + 1, h => by
    have := ha k h
    have := marg_top ha hr k (by omega)
    simp only [margTo]
    split <;> omega
theorem marg_mono (ha : ∀ i, i + 1 < m → R i ≤ R (i + 1)) (hr : ∀ i, i < m → 0 ≤ R i) (hle : n ≤ n') : ∀ k, k ≤ m → margTo F R n k ≤ margTo F R n' k
  | 0, _ => by simp [margTo]
  | k + 1, h => by
    have ih := marg_mono ha hr hle k (by omega)
    have ht := marg_top (F := F) (n := n) ha hr k (by omega)
    simp only [margTo]
    by_cases h1 : F k ≤ n
    · rw [if_pos h1, if_pos (by omega)]; omega
    · rw [if_neg h1]
      split <;> omega
theorem ex_super (hs : ∀ i, i + 1 < m → F i ≤ F (i + 1)) (h0 : F 0 = 0) (hp : ∀ i, i < m → 0 ≤ F i) (hm : 0 < m) (ha : ∀ i, i + 1 < m → R i ≤ R (i + 1)) (hr : ∀ i, i < m → 0 ≤ R i) (hn : 0 ≤ n) :
    ∀ k : Nat, ex F R m n + ex F R m k ≤ ex F R m (n + k)
  | 0 => by
    have := ex_zero (R := R) hs hp
    simp only [Int.natCast_zero, Int.add_zero]
    show _ + ex F R m 0 ≤ _
    omega
  | k + 1 => by
    have ih := ex_super hs h0 hp hm ha hr hn k
    have h1 := ex_step (R := R) (n := n + k) hs h0 (by omega) hm
    have h2 := ex_step (R := R) (n := (k : Int)) hs h0 (by omega) hm
    have h3 := marg_mono (F := F) (R := R) (n := (k : Int)) (n' := n + k) ha hr (by omega) m (Nat.le_refl _)
    have e : n + ((k + 1 : Nat) : Int) = n + k + 1 := by omega
    have e2 : ((k + 1 : Nat) : Int) = (k : Int) + 1 := by omega
    rw [e, e2, h1, h2]; omega

/-- the rate between two neighbouring beginnings -/
theorem marg_in (hs : ∀ i, i + 1 < m → F i ≤ F (i + 1)) (i : Nat) (hi : i < m) (h1 : F i ≤ n) (h2 : i + 1 < m → n < F (i + 1)) : margTo F R n m = R i := by
  have up : ∀ d, i + 1 + d < m → n < F (i + 1 + d) := by
    intro d
    induction d with
    | zero => exact h2
    | succ d ih =>
      intro h
      have := ih (by omega)
      have := hs (i + 1 + d) h
      have e : i + 1 + (d + 1) = i + 1 + d + 1 := by omega
      rw [e]; omega
  have : ∀ d, i + 1 + d ≤ m → margTo F R n (i + 1 + d) = R i := by
    intro d
    induction d with
    | zero => intro _; simp only [margTo]; rw [if_pos h1]
    | succ d ih =>
      intro h
      show (if F (i + 1 + d) ≤ n then R (i + 1 + d) else margTo F R n (i + 1 + d)) = R i
      rw [if_neg (by have := up d (by omega); omega), ih (by omega)]
  have h := this (m - (i + 1)) (by omega)
  rwa [show i + 1 + (m - (i + 1)) = m by omega] at h
theorem ex_in (hs : ∀ i, i + 1 < m → F i ≤ F (i + 1)) (h0 : F 0 = 0) (hp : ∀ i, i < m → 0 ≤ F i) (i : Nat) (hi : i < m) :
    ∀ k : Nat, (i + 1 < m → F i + k ≤ F (i + 1)) → ex F R m (F i + k) = ex F R m (F i) + R i * k
  | 0, _ => by simp
  | k + 1, h => by
    have hpi := hp i hi
    have ih := ex_in hs h0 hp i hi k (fun h' => by have := h h'; omega)
    have h1 := ex_step (R := R) (n := F i + k) hs h0 (by omega) (by omega)
    have h2 := marg_in (R := R) (n := F i + k) hs i hi (by omega) (fun h' => by have := h h'; omega)
    have e : F i + ((k + 1 : Nat) : Int) = F i + k + 1 := by omega
    have e2 : R i * ((k + 1 : Nat) : Int) = R i * k + R i := by rw [show ((k + 1 : Nat) : Int) = (k : Int) + 1 by omega, Int.mul_add, Int.mul_one]
    rw [e, h1, ih, h2, e2]; omega
end
end Go.Proofs.Ytcincmlpegnaiaa
