/-
  Chapter 41: the reference's store in memory; Need, Blocks, Sync. The memory is that of the given program; no conditions.
-/
import Derived.Test.YtabnlnhnefjebaaSt10
namespace Go.Proofs.Ytabnlnhnefjebaa
open Go.RowKit
set_option linter.unusedVariables false
set_option linter.unusedSimpArgs false
theorem need_any (A : Option Addr) (n c : Nat) (w : World) (hn : n ≤ 100000) : Calls Try.prog 20 #[.slice A n c] w fun e w' => e = .returned (.int .i64 ((n + 25) / 26 : Nat)) ∧ w = w' := by
  go_enter Try.func20, Try.ntmps20
  go_wp2
  go_ret
  exact ⟨ret_int (by omega), rfl⟩
section
variable {w : World} {lo : Nat} {rs : List (List Int)} {vs : List Value} {A : Option Addr} {c : Nat}
theorem recs_addr (h : w.ownsRow lo 23 1 (.slice A rs.length c) rs.length vs) (hp : 0 < rs.length) : ∃ g, A = some ⟨g, 0, none⟩ ∧ g < w.heap.size := by
  obtain ⟨g, cap, hv, _, hlt⟩ := h.form hp
  injection hv with hA _ _
  exact ⟨g, hA, hlt⟩
theorem recs_cell (h : w.ownsRow lo 23 1 (.slice A rs.length c) rs.length vs) (hr : RecV w lo rs vs) {g k : Nat} (hA : A = some ⟨g, 0, none⟩) (hk : k < rs.length) :
    ∃ Ak ck, w.cell? ⟨g, k, none⟩ = some (.slice Ak rs[k].length ck) ∧ w.ownsRow lo 5 1 (.slice Ak rs[k].length ck) rs[k].length (u8s rs[k]) := by
  subst hA
  obtain ⟨Ak, ck, h1, h2⟩ := hr.2 k hk
  refine ⟨Ak, ck, ?_, h2⟩
  have := h.cells (g := g) rfl k _ h1
  rw [Go.WideShapes.add_plain] at this
  simpa using this
theorem RecV.take (h : RecV w lo rs vs) (n : Nat) : RecV w lo (rs.take n) (vs.take n) := by
  refine ⟨by simp [h.1], fun i hi => ?_⟩
  have hi' : i < n ∧ i < rs.length := by simp at hi; omega
  obtain ⟨Ai, ci, h1, h2⟩ := h.2 i hi'.2
  refine ⟨Ai, ci, ?_, ?_⟩
  · rw [List.getElem?_take, if_pos hi'.1, h1]; simp
  · simpa using h2
end
theorem need_bd (r : List Int) (h : r.length ≤ 100000) : need r ≤ 4000 := by unfold need; omega
theorem needs_bd (rs : List (List Int)) : (∀ r ∈ rs, r.length ≤ 100000) → needs rs ≤ rs.length * 4000 := by
  induction rs with
  | nil => intro _; exact Nat.le_refl _
  | cons r rs ih =>
    intro h
    have h1 := need_bd r (h r (by simp))
    have h2 := ih (fun x hx => h x (by simp [hx]))
    rw [needs_cons, List.length_cons, Nat.succ_mul]
    omega
theorem needs_take_bd (rs : List (List Int)) (hr : ∀ r ∈ rs, r.length ≤ 100000) (k : Nat) : needs (rs.take k) ≤ k * 4000 := by
  have h1 := needs_bd (rs.take k) (fun r h => hr r (List.mem_of_mem_take h))
  rw [List.length_take] at h1
  exact Nat.le_trans h1 (Nat.mul_le_mul_right _ (Nat.min_le_left _ _))
set_option maxHeartbeats 800000 in
theorem blocks_ref (A : Option Addr) (c n : Nat) (rs : List (List Int)) (vs : List Value) (lo : Nat) (w : World) (hn : Hid (rs.length = n)) (h : w.ownsRow lo 23 1 (.slice A n c) n vs) (hr : RecV w lo rs vs) (hl : n ≤ 100000) (hb : ∀ r ∈ rs, r.length ≤ 100000) :
    Calls Try.prog 14 #[.slice A n c] w fun e w' => e = .returned (.int .i64 (needs rs)) ∧ w = w' := by
  have h' : w.ownsRow lo 23 1 (.slice A rs.length c) rs.length vs := by rw [hn.out]; exact h
  have HO := Lib.hid h'
  have HR := Lib.hid hr
  have HB := Lib.hid hb
  have HT := Lib.hid (needs_take_bd rs hb)
  clear h hr hb h'
  go_enter Try.func14, Try.ntmps14
  go_wp2
  go_loop [3, 4] (fun v i => ∃ k : Nat, k ≤ n ∧ i = .int .i64 k ∧ v = .int .i64 (needs (rs.take k))) (fun _ i => n - (intOf i).toNat)
  case atStart => exact ⟨0, Nat.zero_le _, rfl, by simp [needs]⟩
  case round =>
    obtain ⟨k, hk, rfl, rfl⟩ := hrel
    have hbd := HT.out k
    have HT1 := Lib.hid (HT.out (k + 1))
    by_cases hlt : k < n
    · have hkr : k < rs.length := by rw [hn.out]; exact hlt
      obtain ⟨g, rfl, hg⟩ := recs_addr HO.out (by omega)
      obtain ⟨Ak, ck, hcell, _⟩ := recs_cell HO.out HR.out rfl hkr
      have hlk := HB.out _ (List.getElem_mem hkr)
      have HE := Lib.hid (needs_take_succ rs k hkr)
      have hneed : (need rs[k] : Int) = (((rs[k].length + 25) / 26 : Nat) : Int) := rfl
      have HNd := Lib.hid hneed
      have hbd2 : (needs (rs.take k) : Int) + ((rs[k].length + 25) / 26 : Nat) ≤ 1000000000 := by omega
      clear hneed
      generalize hlen : rs[k].length = m at *
      clear hlen
      generalize hq : needs (rs.take k) = q at *
      clear hq
      go_wp2_with (go_at_call 20; refine (need_any Ak m ck _ hlk).mono ?_; rintro e w' ⟨rfl, rfl⟩)
      go_round
      case rel => exact ⟨k + 1, by omega, by go_num, by rw [HE.out]; simp [HNd.out]⟩
      case measure => simp [intOf]; omega
    · obtain rfl : k = n := by omega
      have HE : Hid (rs.take k = rs) := Lib.hid (List.take_of_length_le (by rw [hn.out]; exact Nat.le_refl _))
      go_wp2
      go_ret
      exact ⟨ret_int (by rw [HE.out]), rfl⟩
end Go.Proofs.Ytabnlnhnefjebaa
