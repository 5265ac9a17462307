/-
  The plain mathematics of zones: segments in a chain, the least instant of a local minute, the greatest local minute so far. No program in sight; no conditions.
-/
import Derived.Test.YtagkdkkpgcolkaaClock
namespace Go.Proofs.Ytagkdkkpgcolkaa
open Go.RowKit
set_option linter.unusedVariables false
set_option linter.unusedSimpArgs false

def Chain : List T3 → Int → Int → Prop
  | [], a, b => a = b
  | s :: r, a, b => s.1 = a ∧ a < s.2.1 ∧ Chain r s.2.1 b
def offS : List T3 → Int → Int
  | [], _ => 0
  | s :: r, t => if t < s.2.1 then s.2.2 else offS r t
theorem offS_lt {s : T3} {r : List T3} {t : Int} (h : t < s.2.1) : offS (s :: r) t = s.2.2 := if_pos h
theorem offS_ge {s : T3} {r : List T3} {t : Int} (h : ¬ t < s.2.1) : offS (s :: r) t = offS r t := if_neg h
theorem chain_le : ∀ {S : List T3} {a b : Int}, Chain S a b → a ≤ b
  | [], a, b, h => by unfold Chain at h; omega
  | s :: r, a, b, h => by
    obtain ⟨h1, h2, h3⟩ := h
    have := chain_le h3
    omega
theorem chain_snoc : ∀ {S : List T3} {a b c x : Int}, Chain S a b → b < c → Chain (S ++ [(b, c, x)]) a c
  | [], a, b, c, x, h, hc => by
    have h' : a = b := h
    subst h'
    exact ⟨rfl, hc, rfl⟩
  | s :: r, a, b, c, x, h, hc => by
    obtain ⟨h1, h2, h3⟩ := h
    exact ⟨h1, h2, chain_snoc h3 hc⟩
theorem offS_front : ∀ {S : List T3} {a b t : Int} {R : List T3}, Chain S a b → a ≤ t → t < b → offS (S ++ R) t = offS S t
  | [], a, b, t, R, h, ha, ht => by
    have h' : a = b := h
    omega
  | s :: r, a, b, t, R, h, ha, ht => by
    obtain ⟨h1, h2, h3⟩ := h
    show offS (s :: (r ++ R)) t = _
    by_cases hlt : t < s.2.1
    · rw [offS_lt hlt, offS_lt hlt]
    · rw [offS_ge hlt, offS_ge hlt]
      exact offS_front h3 (by omega) ht
theorem offS_back : ∀ {S : List T3} {a b c x t : Int}, Chain S a b → b ≤ t → t < c → offS (S ++ [(b, c, x)]) t = x
  | [], a, b, c, x, t, h, ha, ht => offS_lt ht
  | s :: r, a, b, c, x, t, h, ha, ht => by
    obtain ⟨h1, h2, h3⟩ := h
    have := chain_le h3
    show offS (s :: (r ++ [(b, c, x)])) t = _
    rw [offS_ge (by omega)]
    exact offS_back h3 ha ht

section
variable {o : Int} {l : List (Int × Int)} (hV : ZVal o l)
include hV
theorem fst_mono : ∀ d k, k + d < l.length → fst2 l k ≤ fst2 l (k + d)
  | 0, k, _ => Int.le_refl _
  | d + 1, k, h => by
    have := fst_mono d k (by omega)
    have := hV.2.2.2 (k + d) (by omega)
    rw [show k + (d + 1) = k + d + 1 by omega]
    omega
theorem sh_at {k : Nat} {t : Int} (hk : k ≤ l.length) (h1 : sFrom l k ≤ t) (h2 : k < l.length → t < fst2 l k) : shTo o l t l.length = sOff o l k := by
  have h0 : shTo o l t k = sOff o l k := by
    cases k with
    | zero => rfl
    | succ k =>
      have h1' : fst2 l k ≤ t := h1
      rw [shTo_yes h1']
      rfl
  have : ∀ d, k + d ≤ l.length → shTo o l t (k + d) = shTo o l t k := by
    intro d
    induction d with
    | zero => intro _; rfl
    | succ d ih =>
      intro hd
      have a := h2 (by omega)
      have b := fst_mono hV d k (by omega)
      exact (shTo_no (k := k + d) (show ¬ fst2 l (k + d) ≤ t by omega)).trans (ih (by omega))
  rw [← h0, ← this (l.length - k) (by omega)]
  congr 1
  omega
theorem sg_chain : ∀ k, k ≤ l.length → Chain (sgTo o l k) 0 (sFrom l k) ∧ ∀ t, 0 ≤ t → t < sFrom l k → offS (sgTo o l k) t = shTo o l t l.length
  | 0, _ => ⟨rfl, fun t h0 h1 => by simp [sFrom] at h1; omega⟩
  | k + 1, hk => by
    obtain ⟨ih1, ih2⟩ := sg_chain k (by omega)
    have e : sFrom l (k + 1) = fst2 l k := rfl
    rw [e]
    by_cases hf : sFrom l k < fst2 l k
    · rw [sgTo_yes hf]
      refine ⟨chain_snoc ih1 hf, fun t h0 h1 => ?_⟩
      by_cases hlt : t < sFrom l k
      · rw [offS_front ih1 h0 hlt]
        exact ih2 t h0 hlt
      · rw [offS_back ih1 (by omega) h1, sh_at hV (k := k) (by omega) (by omega) (fun _ => h1)]
    · rw [sgTo_no hf]
      have e2 : fst2 l k = sFrom l k := by
        cases k with
        | zero =>
          have := (hV.2.2.1 0 (by omega)).1
          simp [sFrom] at hf ⊢
          omega
        | succ j =>
          have := hV.2.2.2 j (by omega)
          exact absurd this hf
      rw [e2]
      exact ⟨ih1, ih2⟩
theorem segs_chain : Chain (segs o l) 0 120968640 := by
  have h := sg_chain hV l.length (Nat.le_refl _)
  exact chain_snoc h.1 (by have := sFrom_bd hV l.length (Nat.le_refl _); omega)
theorem segs_off (t : Int) (h0 : 0 ≤ t) (h1 : t < 120968640) : offS (segs o l) t = shTo o l t l.length := by
  have h := sg_chain hV l.length (Nat.le_refl _)
  unfold segs
  by_cases hlt : t < sFrom l l.length
  · rw [offS_front h.1 h0 hlt]
    exact h.2 t h0 hlt
  · rw [offS_back h.1 (by omega) h1, sh_at hV (k := l.length) (Nat.le_refl _) (by omega) (fun h => by omega)]
end

theorem first_iff : ∀ {S : List T3} {a : Int} (loc t : Int), Chain S a 120968640 → t < 120968640 → (firstL S loc ≤ t ↔ ∃ x, a ≤ x ∧ x ≤ t ∧ loc ≤ x + offS S x)
  | [], a, loc, t, h, ht => by
    have h' : a = 120968640 := h
    unfold firstL
    constructor
    · intro h; omega
    · rintro ⟨x, h1, h2, _⟩; omega
  | s :: r, a, loc, t, h, ht => by
    obtain ⟨h1, h2, h3⟩ := h
    unfold firstL
    by_cases hc : max s.1 (loc - s.2.2) < s.2.1
    · rw [if_pos hc]
      constructor
      · intro hle
        exact ⟨max s.1 (loc - s.2.2), by omega, hle, by rw [offS_lt hc]; omega⟩
      · rintro ⟨x, ha, hx, hl⟩
        by_cases hxs : x < s.2.1
        · rw [offS_lt hxs] at hl; omega
        · omega
    · rw [if_neg hc, first_iff loc t h3 ht]
      constructor
      · rintro ⟨x, ha, hx, hl⟩
        exact ⟨x, by omega, hx, by rw [offS_ge (by omega)]; exact hl⟩
      · rintro ⟨x, ha, hx, hl⟩
        by_cases hxs : x < s.2.1
        · rw [offS_lt hxs] at hl; omega
        · rw [offS_ge hxs] at hl
          exact ⟨x, by omega, hx, hl⟩
theorem first_bd : ∀ {S : List T3} {a : Int} (loc : Int), Chain S a 120968640 → a ≤ firstL S loc ∧ firstL S loc ≤ 120968640
  | [], a, loc, h => by
    have h' : a = 120968640 := h
    unfold firstL; omega
  | s :: r, a, loc, h => by
    obtain ⟨h1, h2, h3⟩ := h
    have := first_bd loc h3
    have := chain_le h3
    unfold firstL
    by_cases hc : max s.1 (loc - s.2.2) < s.2.1
    · rw [if_pos hc]; omega
    · rw [if_neg hc]; omega
theorem day_iff : ∀ {S : List T3} {a b : Int} (v t acc : Int), Chain S a b → (v ≤ dayL S t acc ↔ v ≤ acc ∨ ∃ x, a ≤ x ∧ x ≤ t ∧ x < b ∧ v ≤ x + offS S x)
  | [], a, b, v, t, acc, h => by
    have h' : a = b := h
    unfold dayL
    constructor
    · intro h; exact .inl h
    · rintro (h | ⟨x, h1, h2, h3, _⟩)
      · exact h
      · omega
  | s :: r, a, b, v, t, acc, h => by
    obtain ⟨h1, h2, h3⟩ := h
    have hle := chain_le h3
    unfold dayL
    by_cases ht : t < s.1
    · rw [if_pos ht]
      constructor
      · intro h; exact .inl h
      · rintro (h | ⟨x, h1, h2, h3, _⟩)
        · exact h
        · omega
    · rw [if_neg ht, day_iff v t _ h3]
      constructor
      · rintro (h | ⟨x, ha, hx, hb, hl⟩)
        · by_cases hv : v ≤ acc
          · exact .inl hv
          · refine .inr ⟨min t (s.2.1 - 1), by omega, by omega, by omega, ?_⟩
            rw [offS_lt (by omega)]
            omega
        · exact .inr ⟨x, by omega, hx, hb, by rw [offS_ge (by omega)]; exact hl⟩
      · rintro (h | ⟨x, ha, hx, hb, hl⟩)
        · exact .inl (by omega)
        · by_cases hxs : x < s.2.1
          · rw [offS_lt hxs] at hl; exact .inl (by omega)
          · rw [offS_ge hxs] at hl
            exact .inr ⟨x, by omega, hx, hb, hl⟩

/-- the instants of a local minute, from the head of the list -/
def instR : List T3 → Int → List Int
  | [], _ => []
  | s :: r, loc => if s.1 ≤ loc - s.2.2 ∧ loc - s.2.2 < s.2.1 then (loc - s.2.2) :: instR r loc else instR r loc
theorem instR_snoc : ∀ (S : List T3) (s : T3) (loc : Int), instR (S ++ [s]) loc = if s.1 ≤ loc - s.2.2 ∧ loc - s.2.2 < s.2.1 then instR S loc ++ [loc - s.2.2] else instR S loc
  | [], s, loc => by simp [instR]
  | x :: r, s, loc => by
    have ih := instR_snoc r s loc
    show (if x.1 ≤ loc - x.2.2 ∧ loc - x.2.2 < x.2.1 then (loc - x.2.2) :: instR (r ++ [s]) loc else instR (r ++ [s]) loc) = _
    rw [ih]
    show _ = if s.1 ≤ loc - s.2.2 ∧ loc - s.2.2 < s.2.1 then (if x.1 ≤ loc - x.2.2 ∧ loc - x.2.2 < x.2.1 then (loc - x.2.2) :: instR r loc else instR r loc) ++ [loc - s.2.2] else (if x.1 ≤ loc - x.2.2 ∧ loc - x.2.2 < x.2.1 then (loc - x.2.2) :: instR r loc else instR r loc)
    by_cases h1 : x.1 ≤ loc - x.2.2 ∧ loc - x.2.2 < x.2.1 <;> by_cases h2 : s.1 ≤ loc - s.2.2 ∧ loc - s.2.2 < s.2.1 <;> simp [h1, h2]
theorem instTo_take (S : List T3) (loc : Int) : ∀ k, k ≤ S.length → instTo S loc k = instR (S.take k) loc
  | 0, _ => by simp [instTo, instR]
  | k + 1, hk => by
    have ih := instTo_take S loc k (by omega)
    rw [List.take_succ_eq_append_getElem (by omega), instR_snoc, t3_at S k (by omega), ← ih]
    rfl
theorem inst_mem : ∀ {S : List T3} {a b : Int} (loc x : Int), Chain S a b → (x ∈ instR S loc ↔ a ≤ x ∧ x < b ∧ x + offS S x = loc)
  | [], a, b, loc, x, h => by
    have h' : a = b := h
    simp [instR]; omega
  | s :: r, a, b, loc, x, h => by
    obtain ⟨h1, h2, h3⟩ := h
    have hle := chain_le h3
    have ih := inst_mem loc x h3
    unfold instR
    by_cases hc : s.1 ≤ loc - s.2.2 ∧ loc - s.2.2 < s.2.1
    · rw [if_pos hc, List.mem_cons, ih]
      constructor
      · rintro (rfl | ⟨ha, hb, he⟩)
        · exact ⟨by omega, by omega, by rw [offS_lt hc.2]; omega⟩
        · exact ⟨by omega, hb, by rw [offS_ge (by omega)]; exact he⟩
      · rintro ⟨ha, hb, he⟩
        by_cases hxs : x < s.2.1
        · rw [offS_lt hxs] at he; exact .inl (by omega)
        · rw [offS_ge hxs] at he; exact .inr ⟨by omega, hb, he⟩
    · rw [if_neg hc, ih]
      constructor
      · rintro ⟨ha, hb, he⟩
        exact ⟨by omega, hb, by rw [offS_ge (by omega)]; exact he⟩
      · rintro ⟨ha, hb, he⟩
        by_cases hxs : x < s.2.1
        · rw [offS_lt hxs] at he; omega
        · rw [offS_ge hxs] at he; exact ⟨by omega, hb, he⟩
theorem inst_sorted : ∀ {S : List T3} {a b : Int} (loc : Int), Chain S a b → (instR S loc).Pairwise (· < ·)
  | [], a, b, loc, h => by simp [instR]
  | s :: r, a, b, loc, h => by
    obtain ⟨h1, h2, h3⟩ := h
    have ih := inst_sorted loc h3
    unfold instR
    by_cases hc : s.1 ≤ loc - s.2.2 ∧ loc - s.2.2 < s.2.1
    · rw [if_pos hc]
      refine List.Pairwise.cons (fun y hy => ?_) ih
      have := ((inst_mem loc y h3).1 hy).1
      omega
    · rw [if_neg hc]; exact ih
theorem at1_lt {L : List Int} (h : L.Pairwise (· < ·)) (i : Nat) (hi : i + 1 < L.length) : at1 L i < at1 L (i + 1) := by
  have := List.pairwise_iff_getElem.1 h i (i + 1) (by omega) hi (by omega)
  simpa [at1, List.getElem?_eq_getElem hi, List.getElem?_eq_getElem (show i < L.length by omega)] using this

/-- the local minute of an instant -/
def lmin (o : Int) (l : List (Int × Int)) (t : Int) : Int := t + shTo o l t l.length
section
variable {o : Int} {l : List (Int × Int)} (hV : ZVal o l)
include hV
theorem lmin_bd (t : Int) : t - 840 ≤ lmin o l t ∧ lmin o l t ≤ t + 840 := by
  have := sh_bd hV t l.length (Nat.le_refl _)
  unfold lmin; omega
theorem loc_ok {t : Int} (h : instOk t) : offE o l t = 0 ∧ locV o l t = lmin o l t := by
  have := off_ok (zerr_of hV) h
  exact ⟨this.1, by unfold locV; rw [if_pos this.1]; rfl⟩
theorem instL_mem (loc x : Int) : x ∈ instL o l loc ↔ instOk x ∧ lmin o l x = loc := by
  have key := inst_mem loc x (segs_chain hV)
  unfold instL
  by_cases hc : zerr o l = 0 ∧ -840 ≤ loc ∧ loc ≤ 120969479
  · rw [if_pos hc, instTo_take _ _ _ (Nat.le_refl _), List.take_length, key]
    unfold instOk lmin
    constructor
    · rintro ⟨h1, h2, h3⟩
      exact ⟨by omega, by rw [← segs_off hV x h1 h2]; exact h3⟩
    · rintro ⟨h1, h2⟩
      exact ⟨by omega, by omega, by rw [segs_off hV x (by omega) (by omega)]; exact h2⟩
  · rw [if_neg hc]
    constructor
    · intro h; simp at h
    · rintro ⟨h1, h2⟩
      have := lmin_bd hV x
      unfold instOk at h1
      exact absurd ⟨zerr_of hV, by omega, by omega⟩ hc
theorem instL_lt (loc : Int) (i : Nat) (hi : i + 1 < (instL o l loc).length) : at1 (instL o l loc) i < at1 (instL o l loc) (i + 1) := by
  refine at1_lt ?_ i hi
  unfold instL
  split
  · rw [instTo_take _ _ _ (Nat.le_refl _), List.take_length]
    exact inst_sorted loc (segs_chain hV)
  · exact List.Pairwise.nil
theorem firstV_iff (loc t : Int) (h : instOk t) : firstV o l loc ≤ t ↔ ∃ x, 0 ≤ x ∧ x ≤ t ∧ loc ≤ lmin o l x := by
  obtain ⟨h0, h1⟩ := h
  unfold firstV
  by_cases hc : 120969479 < loc
  · rw [if_pos hc]
    constructor
    · intro h; omega
    · rintro ⟨x, a, b, c⟩
      have := lmin_bd hV x
      omega
  · rw [if_neg hc, first_iff _ t (segs_chain hV) (by omega)]
    constructor
    · rintro ⟨x, a, b, c⟩
      rw [segs_off hV x a (by omega)] at c
      exact ⟨x, a, b, by unfold lmin; omega⟩
    · rintro ⟨x, a, b, c⟩
      have := lmin_bd hV x
      refine ⟨x, a, b, ?_⟩
      rw [segs_off hV x a (by omega)]
      unfold lmin at c this
      omega
theorem firstV_bd (loc : Int) : 0 ≤ firstV o l loc ∧ firstV o l loc ≤ 120968640 := by
  unfold firstV
  split
  · omega
  · exact first_bd _ (segs_chain hV)
theorem dayG_iff (v t : Int) (h : instOk t) : v ≤ dayL (segs o l) t 0 ↔ v ≤ 0 ∨ ∃ x, 0 ≤ x ∧ x ≤ t ∧ v ≤ lmin o l x := by
  obtain ⟨h0, h1⟩ := h
  rw [day_iff v t 0 (segs_chain hV)]
  constructor
  · rintro (h | ⟨x, a, b, c, d⟩)
    · exact .inl h
    · exact .inr ⟨x, a, b, by rw [segs_off hV x a c] at d; exact d⟩
  · rintro (h | ⟨x, a, b, c⟩)
    · exact .inl h
    · exact .inr ⟨x, a, b, by omega, by rw [segs_off hV x a (by omega)]; exact c⟩
theorem dayV_bd (t : Int) (h : instOk t) : 0 ≤ dayV o l t ∧ dayV o l t ≤ 84005 := by
  have := (dayG_iff hV 0 t h).2 (.inl (by omega))
  unfold dayV
  omega
/-- a day has begun at t exactly if it is not greater than the day of t -/
theorem begin_iff (d t : Int) (h : instOk t) (h0 : 0 ≤ d) (h1 : d ≤ 84006) : beginV o l d ≤ t ↔ d ≤ dayV o l t := by
  have hb := dayV_bd hV t h
  have hi := h
  obtain ⟨t0, t1⟩ := h
  unfold beginV
  by_cases e0 : d = 0
  · rw [if_pos e0]; omega
  · rw [if_neg e0]
    by_cases e1 : d = 84006
    · rw [if_pos e1]; omega
    · rw [if_neg e1, firstV_iff hV _ t hi]
      have := dayG_iff hV (d * 1440) t hi
      unfold dayV
      constructor
      · intro hx
        have h2 := this.2 (.inr hx)
        clear hx this
        omega
      · intro hx
        have h3 : d * 1440 ≤ dayL (segs o l) t 0 := by clear this; omega
        rcases this.1 h3 with h | h
        · clear this; omega
        · exact h
end
end Go.Proofs.Ytagkdkkpgcolkaa
