/-
  Chapter 41: contracts of the store's and the reference's functions in the laws' own words. The memory is that of the given program; no conditions.
-/
import Derived.Test.YtabnlnhnefjebaaLw8
namespace Go.Proofs.Ytabnlnhnefjebaa
open Go.RowKit
set_option linter.unusedVariables false
set_option linter.unusedSimpArgs false
/-- what is known of records that a store holds -/
structure RsOk (rs : List (List Int)) (sy : Nat) : Prop where
  ok : recsOk rs
  len : needs rs ≤ 16384
  syn : sy ≤ needs rs
theorem Rf.rsOk {w : World} {q : Nat} {own : Option Nat} {rs : List (List Int)} {sy : Nat} (h : Rf w q own rs sy) : RsOk rs sy := by
  obtain ⟨A, c, vs, h⟩ := h
  exact ⟨h.ok, h.len, h.syn⟩
theorem RsOk.rlen {rs : List (List Int)} {sy : Nat} (h : RsOk rs sy) : rs.length ≤ 16384 := Nat.le_trans (needs_ge rs (fun r hr => (h.ok r hr).2.1)) h.len
theorem RsOk.ends {rs : List (List Int)} {sy : Nat} (h : RsOk rs sy) (j : Nat) : ends ((brecs 0 rs).take j) = dur rs j := ends_brecs rs (fun r hr => (h.ok r hr).2.1) 0 j
theorem RsOk.endsAll {rs : List (List Int)} {sy : Nat} (h : RsOk rs sy) : Go.Proofs.Ytabnlnhnefjebaa.ends (brecs 0 rs) = rs.length := by
  have := h.ends (brecs 0 rs).length
  rw [List.take_length, brecs_len, dur_all rs _ (Nat.le_refl _)] at this
  exact this
theorem recsOk_take {rs : List (List Int)} (h : recsOk rs) (n : Nat) : recsOk (rs.take n) := fun r hr => h r (List.mem_of_mem_take hr)
/-- n records, in a slice of the call's own or another's -/
def RecN (w : World) (A : Option Addr) (c n : Nat) (rs : List (List Int)) : Prop := ∃ lo vs, w.ownsRow lo 23 1 (.slice A n c) n vs ∧ RecV w lo rs vs ∧ rs.length = n
section
variable {w w' : World} {A : Option Addr} {c n : Nat} {rs : List (List Int)}
theorem RecN.below (h : RecN w A c n rs) (hb : Below w.heap.size w w') : RecN w' A c n rs := by
  obtain ⟨lo, vs, h1, h2, h3⟩ := h
  exact ⟨lo, vs, (own_below h1 (Lib.hid hb)).out, h2.below hb, h3⟩
theorem RecN.take (h : RecN w A c n rs) {k : Nat} (hk : k ≤ n) : RecN w A c k (rs.take k) := by
  obtain ⟨lo, vs, h1, h2, h3⟩ := h
  exact ⟨lo, vs.take k, own_takeR h1 hk, h2.take k, by rw [List.length_take]; omega⟩
theorem RecN.cap (h : RecN w A c n rs) : n ≤ c ∧ c ≤ 9223372036854775807 := by
  obtain ⟨lo, vs, h1, h2, h3⟩ := h
  exact own_cap h1
end
theorem same_at {w : World} {A A' : Option Addr} {c c' n : Nat} {rs : List (List Int)} (h : RecN w A c n rs) (h' : RecN w A' c' n rs) (hl : n ≤ 100000) : Calls Try.prog 29 #[.slice A n c, .slice A' n c'] w (RetB true w) := by
  obtain ⟨lo, vs, h1, h2, h3⟩ := h
  obtain ⟨lo', vs', h1', h2', h3'⟩ := h'
  exact same_true A A' c c' n rs vs vs' lo lo' w (Lib.hid h3) h1 h2 h1' h2' hl
section
variable {w : World} {p : Nat} {own : Option Nat} {rs : List (List Int)} {sy sy' n : Nat}
theorem records_at (hn : Hid (n = rs.length)) (h : St w p own (brecs 0 rs) sy) (hok : Hid (RsOk rs sy')) : Calls Try.prog 27 #[.pointer (some ⟨p, 0, none⟩)] w (fun e w' => ∃ A c, e = .returned (.slice A n c) ∧ RecN w' A c n rs ∧ Below w.heap.size w w') := by
  have h1 := records_any p own _ sy w h (fun x hx => brecs_size rs 0 x hx)
  rw [recsOf_brecs rs (fun r hr => (hok.out.ok r hr).2.1) 0] at h1
  refine h1.mono ?_
  rintro e w' ⟨A, c, rfl, ⟨vs, h2, h3⟩, h4⟩
  rw [hn.out]
  exact ⟨A, c, rfl, ⟨_, vs, h2, h3, rfl⟩, h4⟩
theorem len_at (hn : Hid (n = rs.length)) (h : St w p own (brecs 0 rs) sy) (hok : Hid (RsOk rs sy')) : Calls Try.prog 16 #[.pointer (some ⟨p, 0, none⟩)] w (RetI n w) := by
  have h1 := len_any p own _ sy w h
  rwa [hok.out.endsAll, ← hn.out] at h1
theorem synced_at (hn : Hid (n = dur rs sy)) (h : St w p own (brecs 0 rs) sy) (hok : Hid (RsOk rs sy')) : Calls Try.prog 28 #[.pointer (some ⟨p, 0, none⟩)] w (RetI n w) := by
  have h1 := synced_any p own _ sy w h
  rwa [hok.out.ends, ← hn.out] at h1
theorem bytesR_at (hn : Hid (n = needs rs * 32)) (h : St w p own (brecs 0 rs) sy) : Calls Try.prog 30 #[.pointer (some ⟨p, 0, none⟩)] w (NewBlk (bytes rs) n w) := by
  have h1 := bytes_any p own _ sy w h
  rwa [brecs_len, ← hn.out] at h1
theorem bytesC_at {ca : List Int} (hn : Hid (n = needs rs * 32)) (hc : Hid (ca = bytes rs)) (h : St w p own (brecs 0 rs) sy) : Calls Try.prog 30 #[.pointer (some ⟨p, 0, none⟩)] w (NewBlk ca n w) := by
  rw [hc.out]; exact bytesR_at hn h
theorem crashR_at {cb : List Int} {which torn : Int} (hn : Hid (n = needs rs * 32)) (hc : Hid (cb = (crashB (wbit which) (keepOf torn) sy (brecs 0 rs)).flatten)) (h0 : 0 ≤ which) (h1 : which ≤ 18446744073709551615) (h : St w p own (brecs 0 rs) sy) :
    Calls Try.prog 23 #[.pointer (some ⟨p, 0, none⟩), .int .u64 which, .int .i64 torn] w (NewBlk cb n w) := by
  have h2 := crash_any p own _ sy which torn w h h0 h1
  rwa [brecs_len, ← hn.out, ← hc.out] at h2
/-- a store that was opened on bytes made anew -/
theorem openR_at {b : List Int} {m : Nat} {g : Nat} {R : List (List Int)} (hR : Hid (R = opn b)) (hm : b.length = m) (hb : Blk w g 5 (u8s b).toArray) (hok : Hid (byteOk b)) (hl : m ≤ 100000000) :
    Calls Try.prog 12 #[.slice (some ⟨g, 0, none⟩) m m] w (fun e w' => ∃ p own, e = .returned (.pointer (some ⟨p, 0, none⟩)) ∧ St w' p own (brecs 0 R) (needs R) ∧ Below w.heap.size w w' ∧ w.heap.size ≤ p ∧ (∀ g, own = some g → w.heap.size ≤ g) ∧ RsOk R (needs R)) := by
  refine (open_at (Lib.hid hm.symm) (rdB_blk hb) (Nat.le_refl _) (by omega) hok.out).mono ?_
  rintro e w' ⟨p, own, rfl, h1, h2, h3, h4, h5, h6⟩
  rw [← hR.out] at h1 h5 h6
  exact ⟨p, own, rfl, h1, h2, h3, h4, h5, h6, Nat.le_refl _⟩
end
theorem crash_bytes_ok {rs : List (List Int)} {sy sy' : Nat} {cb : List Int} {which torn : Int} (hc : Hid (cb = (crashB (wbit which) (keepOf torn) sy (brecs 0 rs)).flatten)) (h : Hid (RsOk rs sy')) : Hid (byteOk cb) := by
  refine Lib.hid ?_
  rw [hc.out]
  exact crashB_ok (keepOf_le torn) (brecs_each rs (fun r hr => (h.out.ok r hr).1) 0)
theorem bytes_ok {rs : List (List Int)} {sy : Nat} (h : Hid (RsOk rs sy)) : Hid (byteOk (bytes rs)) := Lib.hid (byteOk_flat (fun l hl => (brecs_each rs (fun r hr => (h.out.ok r hr).1) 0 l hl).2))
/-- what is read behind a crash -/
structure CrashR (rs : List (List Int)) (sy : Nat) (R : List (List Int)) : Prop where
  eq : R = rs.take R.length
  le : R.length ≤ rs.length
  ge : dur rs sy ≤ R.length
theorem crash_read {rs : List (List Int)} {sy : Nat} (h : RsOk rs sy) (bit : Nat → Bool) (keep : Nat) (hk : keep ≤ 31) : CrashR rs sy (opn (crashB bit keep sy (brecs 0 rs)).flatten) := by
  obtain ⟨m, h1, h2, h3, h4, h5⟩ := opn_crash rs h.ok h.len bit keep sy hk h.syn
  have hd := dur_le rs m
  have hl : (rs.take (dur rs m)).length = dur rs m := by rw [List.length_take]; omega
  rw [h5]
  refine ⟨by rw [hl], by rw [hl]; exact hd, by rw [hl]; exact dur_mono rs sy m h1⟩
theorem rec_take {w : World} {A : Option Addr} {c n k : Nat} {rs R : List (List Int)} (h : Hid (RecN w A c n rs)) (ht : Hid (rs.take k = R)) (hk : k ≤ n) : RecN w A c k R := by
  rw [← ht.out]; exact h.out.take hk
theorem dur_full (rs : List (List Int)) : dur rs (needs rs) = rs.length := dur_all rs _ (Nat.le_refl _)
end Go.Proofs.Ytabnlnhnefjebaa
