/-
  The drawn incomes: contract of income.
-/
import Derived.Test.YtflbndcdnenkdaaGen29
namespace Go.Proofs.Ytflbndcdnenkdaa
open Go.RowKit
set_option linter.unusedVariables false
set_option linter.unusedSimpArgs false

set_option maxHeartbeats 1600000 in
theorem income_any (A : Option Addr) (c B g : Nat) (l : List (Int × Int)) (N : Int) (w : World) (hr : RdP w B A l) (hB : B ≤ w.heap.size) (hne : ∀ b off, A = some ⟨b, off, none⟩ → b ≠ g) (bo : Bool) (hG : Gen bo l) (hD : Deck w g N) (hN : N ≤ 800000) :
    Calls Try.prog 19 #[.pointer (some ⟨g, 0, none⟩), .slice A l.length c] w (DeckInt (fun v => 0 ≤ v ∧ v ≤ 1000000000000) g (N + 6) w) := by
  have hl1 := hG.1
  have hl4 := hG.2.1
  obtain ⟨b, off, rfl, hb, hc1, hc2⟩ := hr.all (by omega)
  have hbg := hne b off rfl
  have HC1 := Lib.hid hc1
  have HG := Lib.hid hG
  clear hc1 hc2 hG hr hne
  go_enter Try.func19, Try.ntmps19
  go_wp2_with fail
  refine (next_any g N _ _ hD (by omega) (by omega) (by omega)).mono ?_
  rintro e w1 ⟨v, rfl, hv, ho, hD'⟩
  have HO1 := Lib.hid ho
  have HD1 := Lib.hid hD'
  clear ho hD' hD
  by_cases h0 : v = 0
  · subst h0
    have HN2 : Hid (∀ (W : World), Deck W g (N + 1) → Calls Try.prog 15 #[.pointer (some ⟨g, 0, none⟩), .int .i64 l.length] W (DeckInt (fun v => 0 ≤ v ∧ v < l.length) g (N + 1 + 1) W)) := fun W hW => next_any g (N + 1) _ W hW (by omega) (by omega) (by omega)
    have HN3 : Hid (∀ (W : World), Deck W g (N + 1 + 1) → Calls Try.prog 15 #[.pointer (some ⟨g, 0, none⟩), .int .i64 3] W (DeckInt (fun v => 0 ≤ v ∧ v < 3) g (N + 1 + 1 + 1) W)) := fun W hW => next_any g (N + 1 + 1) _ W hW (by omega) (by omega) (by omega)
    have hbn : (some b : Option Nat) ≠ some g := by intro e; injection e; omega
    go_wp2_with fail
    go_region_with (first
      | (go_at_call_of 15 (Value.int IntKind.i64 3); refine (HN3.out _ ?_).mono ?_; exact HD2.out; rintro e w3 ⟨v3, rfl, hv3, ho3, hD3⟩; have c3 : w3.cell? ⟨b, off + i2 * 2, none⟩ = some (.int .i64 (fst2 l i2)) := ho3.cell c2 hbn; have HO3 := Lib.hid ho3; have HD3 := Lib.hid hD3; clear ho3 hD3)
      | (go_at_call 15; refine (HN2.out _ ?_).mono ?_; exact HD1.out; rintro e w2 ⟨v2, rfl, hv2, ho2, hD2⟩; obtain ⟨i2, rfl⟩ : ∃ i : Nat, v2 = i := ⟨v2.toNat, (by omega)⟩; have hi2 : i2 < l.length := (by omega); have c2 : w2.cell? ⟨b, off + i2 * 2, none⟩ = some (.int .i64 (fst2 l i2)) := ho2.cell (HO1.out.cell (HC1.out i2 hi2) hbn) hbn; have HO2 := Lib.hid ho2; have HD2 := Lib.hid hD2; clear ho2 hD2))
    all_goals
      have hfb := HG.out.2.2.2.1 i2 hi2
      go_wp2
    all_goals go_ret
    all_goals
      have e1 := IntWalk.i64_in (fst2 l i2 + v3) (by omega)
      have e2 : IntKind.i64.wrap (IntKind.i64.wrap (fst2 l i2 + v3) - 1) = fst2 l i2 + v3 - 1 := by rw [e1]; exact IntWalk.i64_in _ (by omega)
      exact ⟨_, rfl, by omega, HO1.out.drew.trans (HO2.out.trans HO3.out), HD3.out.more (by omega)⟩
  · have h0' : (v == 0) = false := by simpa using h0
    go_wp2_with fail
    refine (amount_any g (N + 1) _ HD1.out (by omega)).mono ?_
    rintro e w2 ⟨v2, rfl, hv2, ho2, hD2⟩
    have HO2 := Lib.hid (HO1.out.trans ho2)
    have HD2 := Lib.hid hD2
    clear ho2 hD2
    go_wp2_with fail
    refine (small_any g (N + 1 + 2) _ HD2.out (by omega)).mono ?_
    rintro e w3 ⟨v3, rfl, hv3, ho3, hD3⟩
    have HO3 := Lib.hid (HO2.out.trans ho3)
    have HD3 := Lib.hid hD3
    clear ho3 hD3
    go_wp2_with fail
    refine (pick_new g (N + 1 + 2 + 2) [v2, 10 * v3, 1000000000000, 999999999999] w3 3 4 HD3.out (by omega) (by simp) (by simp)).mono ?_
    rintro e w4 ⟨v4, rfl, hv4, ho4, hD4⟩
    have HO4 := Lib.hid (HO3.out.trans ho4)
    have HD4 := Lib.hid hD4
    clear ho4 hD4
    have hbd : 0 ≤ v4 ∧ v4 ≤ 1000000000000 := by simp at hv4; omega
    clear hv4
    go_wp2
    go_ret
    exact ⟨_, rfl, hbd, HO4.out, HD4.out.more (by omega)⟩
end Go.Proofs.Ytflbndcdnenkdaa
