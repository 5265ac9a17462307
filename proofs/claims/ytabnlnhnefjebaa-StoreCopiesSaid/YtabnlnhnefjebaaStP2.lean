/-
  The plain law of chapter 41, second part: what is read from blocks, how many records are whole, what a crash leaves. No program in sight; no conditions.
-/
import Derived.Test.YtabnlnhnefjebaaStP
namespace Go.Proofs.Ytabnlnhnefjebaa
set_option linter.unusedVariables false
set_option linter.unusedSimpArgs false

/-- how many records are whole in the first n blocks -/
def dur : List (List Int) → Nat → Nat
  | [], _ => 0
  | r :: rs, n => if need r ≤ n then dur rs (n - need r) + 1 else 0
theorem dur_le (rs : List (List Int)) : ∀ n, dur rs n ≤ rs.length := by
  induction rs with
  | nil => intro n; exact Nat.le_refl _
  | cons r rs ih =>
    intro n
    rw [dur]
    split
    · have := ih (n - need r); simp; omega
    · simp
theorem dur_all (rs : List (List Int)) : ∀ n, needs rs ≤ n → dur rs n = rs.length := by
  induction rs with
  | nil => intro n _; rfl
  | cons r rs ih =>
    intro n h
    rw [needs_cons] at h
    rw [dur, if_pos (by omega), ih _ (by omega)]
    rfl
theorem dur_zero (rs : List (List Int)) (h : ∀ r ∈ rs, 1 ≤ r.length) : dur rs 0 = 0 := by
  cases rs with
  | nil => rfl
  | cons r rs =>
    have h1 := h r (by simp)
    have : 1 ≤ need r := need_pos r (fun e => by rw [e] at h1; simp at h1)
    rw [dur, if_neg (by omega)]
theorem dur_mono (rs : List (List Int)) : ∀ m n, m ≤ n → dur rs m ≤ dur rs n := by
  induction rs with
  | nil => intro m n _; exact Nat.le_refl _
  | cons r rs ih =>
    intro m n h
    rw [dur, dur]
    split
    · rw [if_pos (by omega)]
      have := ih (m - need r) (n - need r) (by omega)
      omega
    · omega
theorem dur_iff (rs : List (List Int)) : ∀ n i, i < rs.length → (i < dur rs n ↔ needs (rs.take (i + 1)) ≤ n) := by
  induction rs with
  | nil => intro n i h; simp at h
  | cons r rs ih =>
    intro n i h
    rw [List.take_succ_cons, needs_cons, dur]
    cases i with
    | zero =>
      simp only [Nat.zero_add, List.take_zero, needs_nil, Nat.add_zero]
      split <;> omega
    | succ i =>
      have := ih (n - need r) i (by simpa using h)
      split
      · rw [Nat.add_lt_add_iff_right, this]; omega
      · constructor
        · intro h; omega
        · intro h; omega

/-- the number of the blocks that end a record -/
def ends : List (List Int) → Nat
  | [] => 0
  | x :: xs => (if blast x = true then 1 else 0) + ends xs
theorem ends_app (a b : List (List Int)) : ends (a ++ b) = ends a + ends b := by
  induction a with
  | nil => simp [ends]
  | cons x a ih => rw [List.cons_append, ends, ends, ih]; omega
theorem ends_snoc (a : List (List Int)) (x : List Int) : ends (a ++ [x]) = ends a + (if blast x = true then 1 else 0) := by rw [ends_app]; simp [ends]
theorem ends_le (a : List (List Int)) : ends a ≤ a.length := by
  induction a with
  | nil => exact Nat.le_refl _
  | cons x a ih => rw [ends]; simp; split <;> omega
theorem ends_brec (r : List Int) : r ≠ [] → ∀ n j, ends ((brec n r).take j) = if need r ≤ j then 1 else 0 := by
  refine rec_ind (C := fun r => r ≠ [] → ∀ n j, ends ((brec n r).take j) = if need r ≤ j then 1 else 0) ?_ ?_ r
  · intro h; exact absurd rfl h
  · intro r hr ih _ n j
    have hp := need_pos r hr
    have hd := need_drop r hr
    rw [brec_cons n r hr]
    cases j with
    | zero => rw [List.take_zero, if_neg (by omega)]; rfl
    | succ j =>
      rw [List.take_succ_cons, ends, blast_blk _ _ _ (by simp; omega)]
      by_cases h26 : r.length ≤ 26
      · rw [List.drop_of_length_le h26, brec_nil, List.take_nil]
        have : need r = 1 := need_small r (List.length_pos_iff.2 hr) h26
        simp [h26, ends, this]
      · have hne : r.drop 26 ≠ [] := fun e => by have := congrArg List.length e; simp at this; omega
        rw [ih hne]
        simp [h26, hd]
theorem ends_brecs (rs : List (List Int)) : (∀ r ∈ rs, 1 ≤ r.length) → ∀ n j, ends ((brecs n rs).take j) = dur rs j := by
  induction rs with
  | nil => intro _ n j; simp [brecs, ends, dur]
  | cons r rs ih =>
    intro h n j
    have h1 := h r (by simp)
    have hr : r ≠ [] := fun e => by rw [e] at h1; simp at h1
    rw [brecs, List.take_append, ends_app, ends_brec r hr, brec_len, ih (fun x hx => h x (by simp [hx])), dur]
    split
    · omega
    · have : j - need r = 0 := by omega
      rw [this, dur_zero rs (fun x hx => h x (by simp [hx]))]

/-- the records of blocks -/
def recsOf : List Int → List (List Int) → List (List Int)
  | _, [] => []
  | now, x :: xs => if blast x = true then (now ++ bdata x) :: recsOf [] xs else recsOf (now ++ bdata x) xs
theorem recsOf_brec (r : List Int) : r ≠ [] → ∀ n now t, recsOf now (brec n r ++ t) = (now ++ r) :: recsOf [] t := by
  refine rec_ind (C := fun r => r ≠ [] → ∀ n now t, recsOf now (brec n r ++ t) = (now ++ r) :: recsOf [] t) ?_ ?_ r
  · intro h; exact absurd rfl h
  · intro r hr ih _ n now t
    have hl : (r.take 26).length ≤ 26 := by simp; omega
    rw [brec_cons n r hr, List.cons_append, recsOf, blast_blk _ _ _ hl, bdata_blk _ _ _ hl]
    by_cases h26 : r.length ≤ 26
    · rw [List.drop_of_length_le h26, brec_nil, List.nil_append, List.take_of_length_le h26]
      simp [h26]
    · have hne : r.drop 26 ≠ [] := fun e => by have := congrArg List.length e; simp at this; omega
      rw [if_neg (by simp [h26]), ih hne, List.append_assoc, List.take_append_drop]
theorem recsOf_brecs (rs : List (List Int)) : (∀ r ∈ rs, 1 ≤ r.length) → ∀ n, recsOf [] (brecs n rs) = rs := by
  induction rs with
  | nil => intro _ n; rfl
  | cons r rs ih =>
    intro h n
    have h1 := h r (by simp)
    have hr : r ≠ [] := fun e => by rw [e] at h1; simp at h1
    rw [brecs, recsOf_brec r hr, ih (fun x hx => h x (by simp [hx]))]
    rfl

/-- what is read from the blocks of a record that is too long -/
theorem opnA_long (r : List Int) : ∀ k n now t, 4096 < now.length + r.length → r ≠ [] → opnA k n now ((brec n r).flatten ++ t) = [] := by
  refine rec_ind (C := fun r => ∀ k n now t, 4096 < now.length + r.length → r ≠ [] → opnA k n now ((brec n r).flatten ++ t) = []) ?_ ?_ r
  · intro k n now t _ h; exact absurd rfl h
  · intro r hr ih k n now t hlong _
    have hl : (r.take 26).length ≤ 26 := by simp; omega
    have hb : ((brec n r).flatten ++ t) = blk (n + 1) (r.take 26) (decide (r.length ≤ 26)) ++ ((brec (n + 1) (r.drop 26)).flatten ++ t) := by
      rw [brec_cons n r hr, List.flatten_cons, List.append_assoc]
    have h32 := blk_len (n + 1) (r.take 26) (decide (r.length ≤ 26)) hl
    have ht : ((brec n r).flatten ++ t).take 32 = blk (n + 1) (r.take 26) (decide (r.length ≤ 26)) := by
      rw [hb, List.take_append_of_le_length (by omega), List.take_of_length_le (by omega)]
    have hdr : ((brec n r).flatten ++ t).drop 32 = (brec (n + 1) (r.drop 26)).flatten ++ t := by
      rw [hb, List.drop_append_of_le_length (by omega), List.drop_of_length_le (by omega), List.nil_append]
    cases k with
    | zero => rfl
    | succ k =>
      by_cases hbad : formed (n + 1) (((brec n r).flatten ++ t).take 32) = false ∨ 4096 < now.length + bsize (((brec n r).flatten ++ t).take 32)
      · exact opnA_bad _ _ _ _ hbad
      · have hf : formed (n + 1) (((brec n r).flatten ++ t).take 32) = true := by
          cases hq : formed (n + 1) (((brec n r).flatten ++ t).take 32)
          · exact absurd (.inl hq) hbad
          · rfl
        have hs : now.length + bsize (((brec n r).flatten ++ t).take 32) ≤ 4096 := by
          have := fun h => hbad (.inr h)
          omega
        have hs' := hs
        rw [ht, bsize_blk _ _ _ hl] at hs'
        have hgt : ¬ r.length ≤ 26 := fun h => by rw [List.take_of_length_le h] at hs'; omega
        have hne : r.drop 26 ≠ [] := fun e => by have := congrArg List.length e; simp at this; omega
        rw [opnA_more k n now _ (by rw [hb]; simp; omega) hf hs (by rw [ht, blast_blk _ _ _ hl]; simp; omega), hdr, ht, bdata_blk _ _ _ hl]
        refine ih _ _ _ _ ?_ hne
        simp
        omega
/-- a tail that is not read -/
def deadEnd (k : Nat) (t : List Int) : Prop := k = 0 ∨ t.length < 32 ∨ at1 t 31 ≠ 165
theorem opnA_dead (k n : Nat) (now t : List Int) (h : deadEnd k t) : opnA k n now t = [] := by
  rcases h with rfl | h | h
  · rfl
  · exact opnA_short _ _ _ _ h
  · refine opnA_bad _ _ _ _ (.inl ?_)
    cases hq : formed (n + 1) (t.take 32)
    · rfl
    · have := formed_end hq
      exfalso
      apply h
      rw [← this]
      simp [at1, List.getElem?_take]
theorem opnA_blk (k n : Nat) (now d t : List Int) (last : Bool) (h0 : 1 ≤ d.length) (hl : d.length ≤ 26) (hf : last = true ∨ d.length = 26) (h3 : now.length + d.length ≤ 4096) :
    opnA (k + 1) n now (blk (n + 1) d last ++ t) = if last = true then (now ++ d) :: opnA k (n + 1) [] t else opnA k (n + 1) (now ++ d) t := by
  have h32 := blk_len (n + 1) d last hl
  have ht : (blk (n + 1) d last ++ t).take 32 = blk (n + 1) d last := by rw [List.take_append_of_le_length (by omega), List.take_of_length_le (by omega)]
  have hdr : (blk (n + 1) d last ++ t).drop 32 = t := by rw [List.drop_append_of_le_length (by omega), List.drop_of_length_le (by omega), List.nil_append]
  have hfo := formed_blk (n + 1) d last hl h0 hf
  have hsz := bsize_blk (n + 1) d last hl
  have hla := blast_blk (n + 1) d last hl
  have hda := bdata_blk (n + 1) d last hl
  cases last with
  | true => rw [if_pos rfl, opnA_last k n now _ (by simp; omega) (by rw [ht]; exact hfo) (by rw [ht, hsz]; exact h3) (by rw [ht]; exact hla), ht, hdr, hda]
  | false => rw [if_neg (by simp), opnA_more k n now _ (by simp; omega) (by rw [ht]; exact hfo) (by rw [ht, hsz]; exact h3) (by rw [ht]; exact hla), ht, hdr, hda]
theorem opnA_rec (r : List Int) : r ≠ [] → ∀ k n now t j, j ≤ k → now.length + r.length ≤ 4096 → (j < need r → deadEnd (k - j) t) →
    opnA k n now (((brec n r).take j).flatten ++ t) = if need r ≤ j then (now ++ r) :: opnA (k - need r) (n + need r) [] (((brec n r).drop (need r)).flatten ++ t) else [] := by
  refine rec_ind (C := fun r => r ≠ [] → ∀ k n now t j, j ≤ k → now.length + r.length ≤ 4096 → (j < need r → deadEnd (k - j) t) →
    opnA k n now (((brec n r).take j).flatten ++ t) = if need r ≤ j then (now ++ r) :: opnA (k - need r) (n + need r) [] (((brec n r).drop (need r)).flatten ++ t) else []) ?_ ?_ r
  · intro h; exact absurd rfl h
  · intro r hr ih _ k n now t j hjk hlen hdead
    have hp := need_pos r hr
    have hd := need_drop r hr
    have hpos : 0 < r.length := List.length_pos_iff.2 hr
    have hl : (r.take 26).length ≤ 26 := by simp; omega
    rw [List.drop_of_length_le (show (brec n r).length ≤ need r by rw [brec_len]; omega)]
    cases j with
    | zero =>
      rw [List.take_zero, if_neg (by omega)]
      exact opnA_dead _ _ _ _ (by simpa using hdead (by omega))
    | succ j =>
      obtain ⟨k, rfl⟩ : ∃ k', k = k' + 1 := ⟨k - 1, by omega⟩
      rw [brec_cons n r hr, List.take_succ_cons, List.flatten_cons, List.append_assoc]
      by_cases h26 : r.length ≤ 26
      · have h1 : need r = 1 := need_small r (by omega) h26
        rw [opnA_blk k n now (r.take 26) _ _ (by simp; omega) hl (by simp [h26]) (by simp; omega), List.drop_of_length_le h26, brec_nil, List.take_nil, List.take_of_length_le h26, h1]
        simp [h26]
      · have hne : r.drop 26 ≠ [] := fun e => by have := congrArg List.length e; simp at this; omega
        rw [opnA_blk k n now (r.take 26) _ _ (by simp; omega) hl (by right; simp; omega) (by simp; omega), if_neg (by simp [h26]), ih hne k (n + 1) _ t j (by omega) (by simp; omega) (fun h => by have := hdead (by omega); rwa [show k + 1 - (j + 1) = k - j by omega] at this)]
        rw [List.drop_of_length_le (show (brec (n + 1) (r.drop 26)).length ≤ need (r.drop 26) by rw [brec_len]; omega), hd, List.append_assoc, List.take_append_drop]
        by_cases hq : need (r.drop 26) ≤ j
        · rw [if_pos hq, if_pos (by omega), show k + 1 - (need (r.drop 26) + 1) = k - need (r.drop 26) by omega, show n + 1 + need (r.drop 26) = n + (need (r.drop 26) + 1) by omega]
        · rw [if_neg hq, if_neg (by omega)]
/-- the first j blocks of records, and a tail that is not read -/
theorem opnA_recs (rs : List (List Int)) : recsOk rs → ∀ k n t j, j ≤ k → j ≤ needs rs → deadEnd (k - j) t → opnA k n [] (((brecs n rs).take j).flatten ++ t) = rs.take (dur rs j) := by
  induction rs with
  | nil =>
    intro _ k n t j hjk hj hd
    rw [needs_nil] at hj
    obtain rfl : j = 0 := by omega
    simp [brecs, dur]
    exact opnA_dead _ _ _ _ (by simpa using hd)
  | cons r rs ih =>
    intro hok k n t j hjk hj hd
    have h1 := hok r (by simp)
    have hr : r ≠ [] := fun e => by rw [e] at h1; simp at h1
    rw [needs_cons] at hj
    rw [brecs, dur, List.take_append, brec_len]
    by_cases hq : need r ≤ j
    · rw [List.take_of_length_le (show (brec n r).length ≤ j by rw [brec_len]; exact hq), List.flatten_append, List.append_assoc]
      have := opnA_rec r hr k n [] (((brecs (n + need r) rs).take (j - need r)).flatten ++ t) (need r) (by omega) (by simpa using h1.2.2) (fun h => absurd h (by omega))
      rw [List.take_of_length_le (show (brec n r).length ≤ need r by rw [brec_len]; omega), if_pos (Nat.le_refl _), List.drop_of_length_le (show (brec n r).length ≤ need r by rw [brec_len]; omega)] at this
      rw [this, if_pos hq, List.take_succ_cons]
      simp only [List.flatten_nil, List.nil_append]
      rw [ih (fun x hx => hok x (by simp [hx])) (k - need r) (n + need r) t (j - need r) (by omega) (by omega) (by rwa [show k - need r - (j - need r) = k - j by omega])]
    · have hz : j - need r = 0 := by omega
      rw [hz, List.take_zero, List.append_nil, if_neg hq, List.take_zero]
      have := opnA_rec r hr k n [] t j hjk (by simpa using h1.2.2) (fun _ => hd)
      rw [this, if_neg hq]
def bytes (rs : List (List Int)) : List Int := (brecs 0 rs).flatten
theorem opn_bytes (rs : List (List Int)) (h : recsOk rs) (hn : needs rs ≤ 16384) : opn (bytes rs) = rs := by
  have := opnA_recs rs h 16384 0 [] (needs rs) hn (Nat.le_refl _) (.inr (.inl (by simp)))
  rw [List.take_of_length_le (by rw [brecs_len]; omega), List.append_nil, dur_all rs _ (Nat.le_refl _), List.take_length] at this
  exact this
theorem flat_len (L : List (List Int)) (h : ∀ x ∈ L, x.length = 32) : L.flatten.length = L.length * 32 := by
  induction L with
  | nil => rfl
  | cons x L ih => rw [List.flatten_cons, List.length_append, h x (by simp), ih (fun y hy => h y (by simp [hy])), List.length_cons]; omega

/-- what a crash leaves: 'bit' says which of the blocks behind the synchronized ones survive -/
def crashL (bit : Nat → Bool) : Nat → Nat → List (List Int) → List (List Int)
  | _, _, [] => []
  | j, keep, x :: xs => if bit j = true then x :: crashL bit (j + 1) keep xs else (x.take keep ++ List.replicate (32 - keep) 0) :: crashL bit (j + 1) 0 xs
theorem crashL_len (bit : Nat → Bool) (L : List (List Int)) : ∀ j keep, (crashL bit j keep L).length = L.length := by
  induction L with
  | nil => intro j keep; rfl
  | cons x L ih => intro j keep; rw [crashL]; split <;> simp [ih]
theorem crashL_each (bit : Nat → Bool) (L : List (List Int)) : (∀ x ∈ L, x.length = 32 ∧ byteOk x) → ∀ j keep, keep ≤ 32 → ∀ x ∈ crashL bit j keep L, x.length = 32 ∧ byteOk x := by
  induction L with
  | nil => intro _ j keep _ x hx; simp [crashL] at hx
  | cons y L ih =>
    intro h j keep hk x hx
    have hy := h y (by simp)
    rw [crashL] at hx
    split at hx
    · rcases List.mem_cons.1 hx with rfl | hx
      · exact hy
      · exact ih (fun z hz => h z (by simp [hz])) _ _ hk x hx
    · rcases List.mem_cons.1 hx with rfl | hx
      · exact ⟨by simp; omega, byteOk_app (byteOk_take hy.2 _) (byteOk_rep _ _ (by omega) (by omega))⟩
      · exact ih (fun z hz => h z (by simp [hz])) _ _ (by omega) x hx
theorem crashL_all (bit : Nat → Bool) (h : ∀ j, bit j = true) (L : List (List Int)) : ∀ j keep, crashL bit j keep L = L := by
  induction L with
  | nil => intro j keep; rfl
  | cons x L ih => intro j keep; rw [crashL, if_pos (h j), ih]
/-- the blocks up to the first lost one stay, and the lost one is not read -/
theorem crashL_front (bit : Nat → Bool) (L : List (List Int)) : (∀ x ∈ L, x.length = 32) → ∀ j keep, keep ≤ 31 → ∃ m t, m ≤ L.length ∧ (m = 0 ∨ bit j = true) ∧ crashL bit j keep L = L.take m ++ t ∧ (m = L.length ∧ t = [] ∨ at1 t.flatten 31 ≠ 165) := by
  induction L with
  | nil => intro _ j keep _; exact ⟨0, [], Nat.le_refl _, .inl rfl, rfl, .inl ⟨rfl, rfl⟩⟩
  | cons x L ih =>
    intro h j keep hk
    have hx := h x (by simp)
    rw [crashL]
    split
    · rename_i hb
      obtain ⟨m, t, h1, _, h2, h3⟩ := ih (fun y hy => h y (by simp [hy])) (j + 1) keep hk
      refine ⟨m + 1, t, by simp; omega, .inr hb, by rw [h2]; rfl, ?_⟩
      rcases h3 with ⟨h3, h4⟩ | h3
      · exact .inl ⟨by simp [h3], h4⟩
      · exact .inr h3
    · refine ⟨0, _, Nat.zero_le _, .inl rfl, by rw [List.take_zero, List.nil_append], .inr ?_⟩
      rw [List.flatten_cons]
      have : at1 (x.take keep ++ List.replicate (32 - keep) 0 ++ (crashL bit (j + 1) 0 L).flatten) 31 = 0 := by
        unfold at1
        rw [List.getD_eq_getElem?_getD, List.append_assoc, List.getElem?_append_right (by simp; omega), List.getElem?_append_left (by simp; omega), List.getElem?_replicate]
        split <;> rfl
      rw [this]
      omega
def crashB (bit : Nat → Bool) (keep : Nat) (sy : Nat) (B : List (List Int)) : List (List Int) := B.take sy ++ crashL bit 0 keep (B.drop sy)
theorem opn_crash (rs : List (List Int)) (h : recsOk rs) (hn : needs rs ≤ 16384) (bit : Nat → Bool) (keep sy : Nat) (hk : keep ≤ 31) (hs : sy ≤ needs rs) :
    ∃ m, sy ≤ m ∧ m ≤ needs rs ∧ (bit 0 = true ∨ m = sy) ∧ ((∀ j, bit j = true) → m = needs rs) ∧ opn (crashB bit keep sy (brecs 0 rs)).flatten = rs.take (dur rs m) := by
  have hall : ∀ x ∈ (brecs 0 rs).drop sy, x.length = 32 := fun x hx => (brecs_each rs (fun r hr => (h r hr).1) 0 x (List.mem_of_mem_drop hx)).1
  by_cases hb : ∀ j, bit j = true
  · refine ⟨needs rs, hs, Nat.le_refl _, .inl (hb 0), fun _ => rfl, ?_⟩
    rw [crashB, crashL_all bit hb, List.take_append_drop, dur_all rs _ (Nat.le_refl _), List.take_length]
    exact opn_bytes rs h hn
  · obtain ⟨m, t, h1, h0, h2, h3⟩ := crashL_front bit _ hall 0 keep hk
    rw [List.length_drop, brecs_len] at h1 h3
    refine ⟨sy + m, by omega, by omega, ?_, fun h => absurd h hb, ?_⟩
    · rcases h0 with rfl | h0
      · exact .inr rfl
      · exact .inl h0
    · rw [crashB, h2, ← List.append_assoc, List.flatten_append]
      have : (brecs 0 rs).take sy ++ ((brecs 0 rs).drop sy).take m = (brecs 0 rs).take (sy + m) := by rw [List.take_add]
      rw [this]
      refine opnA_recs rs h 16384 0 _ (sy + m) (by omega) (by omega) ?_
      rcases h3 with ⟨_, rfl⟩ | h3
      · exact .inr (.inl (by simp))
      · exact .inr (.inr h3)
end Go.Proofs.Ytabnlnhnefjebaa
