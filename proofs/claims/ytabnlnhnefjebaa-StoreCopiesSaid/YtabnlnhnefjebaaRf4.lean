/-
  Chapter 41: the walk of Append of the reference. The memory is that of the given program; no conditions.
-/
import Derived.Test.YtabnlnhnefjebaaRf3
namespace Go.Proofs.Ytabnlnhnefjebaa
open Go.RowKit
set_option linter.unusedVariables false
set_option linter.unusedSimpArgs false
theorem rappend_bad (q : Nat) (A0 : Option Addr) (m c0 : Nat) (w : World) (h : m < 1 ∨ 4096 < m) :
    Calls Try.prog 33 #[.pointer (some ⟨q, 0, none⟩), .slice A0 m c0] w (fun e w' => e = .returned (.int .i64 1) ∧ w = w') := by
  by_cases h1 : m < 1
  · obtain rfl : m = 0 := by omega
    clear h
    go_enter Try.func33, Try.ntmps33
    go_wp2
    go_ret
    exact ⟨rfl, rfl⟩
  · have h1' : ((m : Int) == 0) = false := by simp; omega
    have h2' : 4096 < (m : Int) := by omega
    clear h
    go_enter Try.func33, Try.ntmps33
    go_wp2
    go_ret
    exact ⟨rfl, rfl⟩
set_option maxHeartbeats 800000 in
theorem rappend_full (q : Nat) (own : Option Nat) (rs : List (List Int)) (sy : Nat) (A0 : Option Addr) (m c0 : Nat) (w : World) (h : Rf w q own rs sy) (h1 : 1 ≤ m) (h2 : m ≤ 4096) (h3 : 16384 < needs rs + (m + 25) / 26) :
    Calls Try.prog 33 #[.pointer (some ⟨q, 0, none⟩), .slice A0 m c0] w (fun e w' => e = .returned (.int .i64 18) ∧ w = w') := by
  obtain ⟨A, c, vs, h⟩ := h
  have HS := Lib.hid h
  have x0 := h.box.cell 0
  have hl := h.len
  simp at x0
  obtain ⟨n, Hn⟩ : ∃ n, Hid (rs.length = n) := ⟨_, Lib.hid rfl⟩
  rw [Hn.out] at x0
  clear h
  have h1' : ((m : Int) == 0) = false := by simp; omega
  have h2' : ¬ 4096 < (m : Int) := by omega
  have HB : Hid (Calls Try.prog 14 #[.slice A n c] w fun e w' => e = .returned (.int .i64 (needs rs)) ∧ w = w') := Lib.hid ((HS.out).blocks Hn)
  generalize needs rs = nd at *
  obtain ⟨nb, Hnb⟩ : ∃ nb, Hid (nb = (m + 25) / 26) := ⟨_, Lib.hid rfl⟩
  have HNd : Hid (Calls Try.prog 20 #[.slice A0 m c0] w fun e w' => e = .returned (.int .i64 nb) ∧ w = w') := Lib.hid (by rw [Hnb.out]; exact need_any A0 m c0 w (by omega))
  rw [← Hnb.out] at h3
  have hnb : nb ≤ 158 := by rw [Hnb.out]; omega
  have h3' : 16384 < (nd : Int) + (nb : Int) := by omega
  go_enter Try.func33, Try.ntmps33
  go_wp2_with (first | (go_at_call 14; refine (HB.out).mono ?_; rintro e w' ⟨rfl, rfl⟩) | (go_at_call 20; refine (HNd.out).mono ?_; rintro e w' ⟨rfl, rfl⟩))
  go_ret
  exact ⟨rfl, rfl⟩
def RAppPost (q : Nat) (own : Option Nat) (rs : List (List Int)) (sy : Nat) (r : List Int) (w : World) (e : Ending) (w' : World) : Prop :=
  e = .returned (.int .i64 0) ∧ ∃ own', Rf w' q own' (rs ++ [r]) sy ∧ (own' = own ∨ ∃ g, own' = some g ∧ w.heap.size ≤ g) ∧ Chg (fun k => k = q ∨ own = some k) w w'
set_option maxHeartbeats 800000 in
theorem rappend_ok (q : Nat) (own : Option Nat) (rs : List (List Int)) (sy : Nat) (A0 : Option Addr) (m c0 : Nat) (r : List Int) (w : World) (h : Rf w q own rs sy) (hr : Src w 1 A0 m (u8s r)) (hm : r.length = m) (hb : byteOk r) (h1 : 1 ≤ m) (h2 : m ≤ 4096) (h3 : needs rs + need r ≤ 16384) :
    Calls Try.prog 33 #[.pointer (some ⟨q, 0, none⟩), .slice A0 m c0] w (RAppPost q own rs sy r w) := by
  obtain ⟨A, c, vs, h⟩ := h
  have HS := Lib.hid h
  have x0 := h.box.cell 0
  have hl := h.len
  have HR := Lib.hid hr
  have HM := Lib.hid hm
  have HBo := Lib.hid hb
  have H3 := Lib.hid h3
  simp at x0
  obtain ⟨n, Hn⟩ : ∃ n, Hid (rs.length = n) := ⟨_, Lib.hid rfl⟩
  rw [Hn.out] at x0
  have h1' : ((m : Int) == 0) = false := by simp; omega
  have h2' : ¬ 4096 < (m : Int) := by omega
  have HB : Hid (Calls Try.prog 14 #[.slice A n c] w fun e w' => e = .returned (.int .i64 (needs rs)) ∧ w = w') := Lib.hid ((HS.out).blocks Hn)
  obtain ⟨nd, Hnd⟩ : ∃ nd, Hid (nd = needs rs) := ⟨_, Lib.hid rfl⟩
  rw [← Hnd.out] at HB hl
  obtain ⟨nb, Hnb⟩ : ∃ nb, Hid (nb = (m + 25) / 26) := ⟨_, Lib.hid rfl⟩
  have HNd : Hid (Calls Try.prog 20 #[.slice A0 m c0] w fun e w' => e = .returned (.int .i64 nb) ∧ w = w') := Lib.hid (by rw [Hnb.out]; exact need_any A0 m c0 w (by omega))
  have hnb : nb ≤ 158 := by rw [Hnb.out]; omega
  have h3' : ¬ 16384 < (nd : Int) + (nb : Int) := by
    have e : need r = nb := by unfold need; rw [hm, Hnb.out]
    rw [e, ← Hnd.out] at h3
    omega
  clear h hr hm hb h3
  go_enter Try.func33, Try.ntmps33
  go_upto_region 5 with (first | (go_at_call 14; refine (HB.out).mono ?_; rintro e w' ⟨rfl, rfl⟩) | (go_at_call 20; refine (HNd.out).mono ?_; rintro e w' ⟨rfl, rfl⟩))
  refine rapp_region 5 22 0 1 (by kernel_rfl) rfl rfl rfl rfl rfl rfl rfl rfl rfl rfl rfl rfl rfl (by decide) (by decide) (show 33 < 34 from by decide) (fun _ _ _ _ _ h => h) q m c0 A0 rfl rfl HS.out HR.out HM.out HBo.out h1 h2 H3.out ?_
  intro z0 z1 z2 z3 z6 z4 z5 z7 z8 z9 z10 z11 A9 c9 w' own' vs' Hr Ho Hc
  simp only [Nat.reduceAdd, Act.put, List.setIfInBounds_toArray, List.set_cons_zero, List.set_cons_succ]
  go_wp2
  go_ret
  exact ⟨rfl, own', ⟨A9, c9, vs', Hr.out⟩, Ho.out, Hc.out⟩
end Go.Proofs.Ytabnlnhnefjebaa
