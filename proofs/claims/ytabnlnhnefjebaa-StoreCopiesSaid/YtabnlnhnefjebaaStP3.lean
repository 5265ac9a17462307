/-
  The plain law of chapter 41, third part: when a block has the form, byte for byte. No program in sight; no conditions.
-/
import Derived.Test.YtabnlnhnefjebaaStP2
namespace Go.Proofs.Ytabnlnhnefjebaa
set_option linter.unusedVariables false
set_option linter.unusedSimpArgs false
theorem ext_at1 (x y : List Int) (h0 : x.length = y.length) (h : ∀ k, k < x.length → at1 x k = at1 y k) : x = y := by
  refine List.ext_getElem h0 fun k h1 h2 => ?_
  have := h k h1
  simpa [at1, h1, h2] using this
theorem blk_mid (n : Nat) (d : List Int) (la : Bool) (k : Nat) (h : k < d.length) : at1 (blk n d la) (5 + k) = at1 d k := by
  unfold at1 blk
  simp only [List.getD_eq_getElem?_getD]
  rw [List.append_assoc, List.append_assoc, List.getElem?_append_right (by simp), List.getElem?_append_left (by simpa using h)]
  simp
theorem blk_pad (n : Nat) (d : List Int) (la : Bool) (k : Nat) (hd : d.length ≤ 26) (h : 5 + d.length ≤ k) (h2 : k < 31) : at1 (blk n d la) k = 0 := by
  unfold at1 blk
  simp only [List.getD_eq_getElem?_getD]
  rw [List.getElem?_append_left (by simp; omega), List.getElem?_append_right (by simp; omega), List.getElem?_replicate]
  generalize k - List.length _ = z
  split <;> rfl
/-- the bytes of the form -/
structure FormB (n : Nat) (x : List Int) : Prop where
  a0 : at1 x 0 = ((n / 16777216 % 256 : Nat) : Int)
  a1 : at1 x 1 = ((n / 65536 % 256 : Nat) : Int)
  a2 : at1 x 2 = ((n / 256 % 256 : Nat) : Int)
  a3 : at1 x 3 = ((n % 256 : Nat) : Int)
  a31 : at1 x 31 = 165
  lo : 1 ≤ bsize x
  hi : bsize x ≤ 26
  full : blast x = true ∨ bsize x = 26
  pad : ∀ k, 5 + bsize x ≤ k → k < 31 → at1 x k = 0
theorem form_mk {n : Nat} {x : List Int} (hx : x.length = 32) (hb : byteOk x) (h : FormB n x) : formed n x = true := by
  unfold formed
  refine decide_eq_true ⟨h.lo, h.hi, h.full, ?_⟩
  have hd := bdata_len hx h.hi
  refine ext_at1 _ _ (by rw [hx, blk_len _ _ _ (by rw [hd]; exact h.hi)]) fun k hk => ?_
  rw [hx] at hk
  have h4 := byteOk_at hb 4
  by_cases h5 : k < 5
  · rcases (show k = 0 ∨ k = 1 ∨ k = 2 ∨ k = 3 ∨ k = 4 by omega) with rfl | rfl | rfl | rfl | rfl
    · rw [h.a0]; simp [blk, at1]
    · rw [h.a1]; simp [blk, at1]
    · rw [h.a2]; simp [blk, at1]
    · rw [h.a3]; simp [blk, at1]
    · rw [blk_at4, hd]
      unfold bsize blast
      by_cases hq : 128 ≤ at1 x 4
      · simp [hq]; omega
      · simp [hq]; omega
  · by_cases h6 : k < 5 + bsize x
    · have e : k = 5 + (k - 5) := by omega
      rw [e, blk_mid _ _ _ _ (by rw [hd]; omega)]
      unfold bdata
      simp [at1, List.getElem?_take, List.getElem?_drop]
      rw [if_pos (by omega)]
    · by_cases h31 : k < 31
      · rw [h.pad k (by omega) h31, blk_pad _ _ _ _ (by rw [hd]; exact h.hi) (by rw [hd]; omega) h31]
      · obtain rfl : k = 31 := by omega
        rw [h.a31, blk_at31 _ _ _ (by rw [hd]; exact h.hi)]
theorem form_of {n : Nat} {x : List Int} (hx : x.length = 32) (h : formed n x = true) : FormB n x := by
  obtain ⟨e, h1, h2, h3⟩ := formed_eq h
  have hd := bdata_len hx h2
  generalize hdd : bdata x = d at *
  generalize hla : blast x = la at *
  refine ⟨?_, ?_, ?_, ?_, ?_, h1, h2, by rw [hla]; exact h3, fun k hk hk2 => ?_⟩
  · rw [e]; simp [blk, at1]
  · rw [e]; simp [blk, at1]
  · rw [e]; simp [blk, at1]
  · rw [e]; simp [blk, at1]
  · rw [e]; exact blk_at31 _ _ _ (by omega)
  · have : at1 (blk n d la) k = 0 := blk_pad _ _ _ _ (by omega) (by omega) hk2
    rw [← e] at this
    exact this
theorem formed_not {n : Nat} {x : List Int} (hx : x.length = 32) (h : ¬ FormB n x) : formed n x = false := by
  cases hq : formed n x
  · rfl
  · exact absurd (form_of hx hq) h
end Go.Proofs.Ytabnlnhnefjebaa
