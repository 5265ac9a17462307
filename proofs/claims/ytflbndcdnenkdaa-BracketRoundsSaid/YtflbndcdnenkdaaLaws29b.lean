/-
  The walks of the laws BracketGrows and BracketRounds.
-/
import Derived.Test.YtflbndcdnenkdaaLaws29
import Derived.Test.YtflbndcdnenkdaaTax29
namespace Go.Proofs.Ytflbndcdnenkdaa
open Go.RowKit
set_option linter.unusedVariables false
set_option linter.unusedSimpArgs false

theorem tax_ok' {w W : World} {g : Nat} {N : Int} {A : Option Addr} {l : List (Int × Int)} (c : Nat) (h : Dr w g N A l W) (hV : Val l) (n unit mode : Int) (h0 : 0 ≤ n) (h1 : n ≤ 1000000000000) (hu : 1 ≤ unit) (hu2 : unit ≤ 1000000) (hm : modeOk mode) :
    Calls Try.prog 32 #[.slice A l.length c, .int .i64 n, .int .i64 unit, .int .i64 mode] W (RetII (roundV (exL l n) unit mode) 0 W) := by
  have := tax_any A c _ l W h.rd (Nat.le_refl _) (by have := hV.2.1; omega) n unit mode
  have ht := tax_ok (mode := mode) (chk_ok hV h0 h1) hu hu2 hm
  rwa [ht.1, ht.2.1] at this
/-- the tax is a multiple of the unit near the exact tax -/
theorem round_props {x unit mode : Int} (h0 : 0 ≤ x) (hu : 1 ≤ unit) (hm : modeOk mode) :
    0 ≤ roundV x unit mode ∧ roundV x unit mode * 1000000 - x < unit * 1000000 ∧ x - roundV x unit mode * 1000000 < unit * 1000000 ∧ (mode = 0 ∨ mode = 2 → roundV x unit mode * 1000000 ≤ x) ∧ (mode = 1 ∨ mode = 3 → x ≤ roundV x unit mode * 1000000) ∧
    (4 ≤ mode → 2 * (roundV x unit mode * 1000000 - x) ≤ unit * 1000000 ∧ 2 * (x - roundV x unit mode * 1000000) ≤ unit * 1000000) := by
  have hd := Int.mul_ediv_add_emod x (1000000 * unit)
  have hr := mod_bd2 (x := x) hu
  unfold roundV
  generalize hqe : x / (1000000 * unit) = q at *
  generalize x % (1000000 * unit) = r at *
  have q0 : 0 ≤ q * unit := Int.mul_nonneg (by rw [← hqe]; exact Int.ediv_nonneg h0 (by omega)) (by omega)
  have e1 : 1000000 * unit * q = q * unit * 1000000 := by rw [Int.mul_assoc, Int.mul_comm unit q, Int.mul_comm]
  rw [e1] at hd
  by_cases hup : upB q r (1000000 * unit) mode = true
  · rw [if_pos hup]
    have e2 : (q + 1) * unit = q * unit + unit := by rw [Int.add_mul, Int.one_mul]
    rw [e2]
    unfold upB at hup
    by_cases z : r = 0
    · rw [if_pos z] at hup; cases hup
    · rw [if_neg z] at hup
      rcases mode_cases hm with rfl | rfl | rfl | rfl | rfl | rfl | rfl <;> simp at hup <;> omega
  · rw [if_neg hup, Int.add_zero]
    unfold upB at hup
    by_cases z : r = 0
    · omega
    · rw [if_neg z] at hup
      rcases mode_cases hm with rfl | rfl | rfl | rfl | rfl | rfl | rfl <;> simp at hup <;> omega

set_option maxHeartbeats 3200000 in
theorem bracketGrows_walk (A0 : Option Addr) (c0 : Nat) (l0 : List Int) (more : Int) (w : World) (hr0 : RdI w w.heap.size A0 l0) (hl0 : l0.length ≤ 9223372036854775807) (hb0 : ∀ i, i < l0.length → InR (at1 l0 i)) (hmr : InR more) :
    Calls Try.prog 6 #[.slice A0 l0.length c0, .int .i64 more] w (RetB true w) := by
  go_enter Try.func6, Try.ntmps6
  go_wp2_with fail
  refine (law_start false (P := fun _ _ _ => True) A0 c0 l0 w hr0 hl0).mono ?_
  rintro e w1 ⟨rfl, hbr⟩
  have HBR := Lib.hid hbr
  clear hbr hr0 hb0 
  generalize hg : w.heap.size = g at *
  have HG := Lib.hid hg
  clear hg
  go_wp2_with fail
  refine HBR.out.mono ?_
  rintro e w2 ⟨A, c, l, rfl, hgen, _, _, hdr⟩
  have hl4 := hgen.2.1
  have hl1 := hgen.1
  have HV := Lib.hid (gen_val hgen)
  have HGen := Lib.hid hgen
  have HDr := Lib.hid hdr
  clear hgen hdr HBR
  go_wp2_with fail
  refine (income_any A c _ g l 20 _ HDr.out.rd (Nat.le_refl _) HDr.out.ne false HGen.out HDr.out.deck (by omega)).mono ?_
  rintro e w3 ⟨v, rfl, hv, ho, hD⟩
  have HDr := Lib.hid (HDr.out.draw ho hD)
  clear ho hD
  obtain ⟨n, hn, hn0, hn1⟩ : ∃ n : Int, (if 999999900000 < v then (999999900000 : Int) else v) = n ∧ 0 ≤ n ∧ n ≤ 999999900000 := ⟨_, rfl, by split <;> omega, by split <;> omega⟩
  have hmb := mod_bd more 100000 (by omega)
  go_wp2_with fail
  clear hn
  refine (mod_any more 100000 _ (by omega) (by omega)).mono ?_
  rintro e w4 ⟨rfl, rfl⟩
  generalize more % 100000 = md at *
  go_wp2_with fail
  refine (exact_ok c HDr.out HV.out (n) (by omega) (by omega)).mono ?_
  rintro e w4 ⟨rfl, hb⟩
  have HDr := Lib.hid (HDr.out.calc_ hb)
  clear hb
  go_wp2_with fail
  refine (exact_ok c HDr.out HV.out (n + md) (by omega) (by omega)).mono ?_
  rintro e w5 ⟨rfl, hb⟩
  have HDr := Lib.hid (HDr.out.calc_ hb)
  clear hb
  go_wp2_with fail
  refine (exact_ok c HDr.out HV.out (n + 1) (by omega) (by omega)).mono ?_
  rintro e w6 ⟨rfl, hb⟩
  have HDr := Lib.hid (HDr.out.calc_ hb)
  clear hb
  go_wp2_with fail
  refine (marginal_ok c HDr.out HV.out n (by omega) (by omega)).mono ?_
  rintro e w7 ⟨rfl, hb⟩
  have HDr := Lib.hid (HDr.out.calc_ hb)
  clear hb
  have hv' := HV.out
  have x1 := exL_bd (n := n) hv' (by omega) (by omega)
  have x2 := exL_bd (n := n + md) hv' (by omega) (by omega)
  have x3 := ex_mono (F := fst2 l) (R := snd2 l) (m := l.length) (n := n) (n' := n + md) (M := 1000000) (val_mono hv') hv'.2.2.1 hn0 (by omega) (by omega) (fun i hi => val_rate hv' i hi) (by omega)
  have x4 := ex_step (F := fst2 l) (R := snd2 l) (m := l.length) (n := n) (val_mono hv') hv'.2.2.1 hn0 (by omega)
  have x5 := marg_bd (F := fst2 l) (R := snd2 l) (n := n) (M := 1000000) (by omega) l.length (fun i hi => val_rate hv' i hi)
  change exL l n ≤ exL l (n + md) ∧ exL l (n + md) - exL l n ≤ _ at x3
  change exL l (n + 1) = exL l n + mgL l n l.length at x4
  change 0 ≤ mgL l n l.length ∧ mgL l n l.length ≤ _ at x5
  generalize exL l n = a at *
  generalize exL l (n + md) = b at *
  generalize exL l (n + 1) = cc at *
  generalize mgL l n l.length = r at *
  clear hv'
  have t1 : decide (a ≤ b) = true := by simp; omega
  have t2 : decide (b - a ≤ md * 1000000) = true := by simp; omega
  have t2' : decide (b - a ≤ (n + md - n) * 1000000) = true := by simp; omega
  have t3 : (cc - a == r) = true := by rw [beq_iff_eq]; omega
  have x6 : 0 ≤ cc ∧ cc ≤ 1000000000001000000 := by omega
  have HX4 := Lib.hid x4
  clear x4
  go_wp2_with fail
  refine (awake_any _).mono ?_
  rintro e w8 ⟨rfl, hb⟩
  have HDr := Lib.hid (HDr.out.calc_ hb)
  clear hb
  go_wp2
  go_ret
  exact ⟨rfl, HDr.out.below⟩

set_option maxHeartbeats 3200000 in
theorem bracketRounds_walk (A0 : Option Addr) (c0 : Nat) (l0 : List Int) (w : World) (hr0 : RdI w w.heap.size A0 l0) (hl0 : l0.length ≤ 9223372036854775807) (hb0 : ∀ i, i < l0.length → InR (at1 l0 i)) :
    Calls Try.prog 10 #[.slice A0 l0.length c0] w (RetB true w) := by
  go_enter Try.func10, Try.ntmps10
  go_wp2_with fail
  refine (law_start false (P := fun _ _ _ => True) A0 c0 l0 w hr0 hl0).mono ?_
  rintro e w1 ⟨rfl, hbr⟩
  have HBR := Lib.hid hbr
  clear hbr hr0 hb0 
  generalize hg : w.heap.size = g at *
  have HG := Lib.hid hg
  clear hg
  go_wp2_with fail
  refine HBR.out.mono ?_
  rintro e w2 ⟨A, c, l, rfl, hgen, _, _, hdr⟩
  have hl4 := hgen.2.1
  have hl1 := hgen.1
  have HV := Lib.hid (gen_val hgen)
  have HGen := Lib.hid hgen
  have HDr := Lib.hid hdr
  clear hgen hdr HBR
  go_wp2_with fail
  refine (small_any g 20 _ HDr.out.deck (by omega)).mono ?_
  rintro e w3 ⟨n, rfl, hn, ho, hD⟩
  have HDr := Lib.hid (HDr.out.draw ho hD)
  clear ho hD
  go_wp2_with fail
  refine (pick_new g (20 + 2) [1, 5, 100, 1000] _ 3 4 HDr.out.deck (by omega) (by decide) (by decide)).mono ?_
  rintro e w4 ⟨u, rfl, hu, ho, hD⟩
  have HDr := Lib.hid (HDr.out.draw ho hD)
  clear ho hD
  have hu1 : 1 ≤ u ∧ u ≤ 1000 := by simp at hu; omega
  have HU := Lib.hid hu
  clear hu
  go_wp2_with fail
  refine (mode_any g (20 + 2 + 1) _ HDr.out.deck (by omega)).mono ?_
  rintro e w5 ⟨m, rfl, hm, ho, hD⟩
  have HDr := Lib.hid (HDr.out.draw ho hD)
  clear ho hD
  go_wp2_with fail
  refine (exact_ok c HDr.out HV.out (10 * n) (by omega) (by omega)).mono ?_
  rintro e w6 ⟨rfl, hb⟩
  have HDr := Lib.hid (HDr.out.calc_ hb)
  clear hb
  go_wp2_with fail
  refine (tax_ok' c HDr.out HV.out (10 * n) u m (by omega) (by omega) (by omega) (by omega) ⟨by omega, by omega⟩).mono ?_
  rintro e w7 ⟨rfl, hb⟩
  have HDr := Lib.hid (HDr.out.calc_ hb)
  clear hb
  have x1 := exTo_bd (n := 10 * n) HV.out (by omega) (by omega) l.length (Nat.le_refl _)
  change 0 ≤ exL l (10 * n) ∧ exL l (10 * n) ≤ _ at x1
  generalize exL l (10 * n) = x at *
  have hx : x ≤ 6000000000000 := by omega
  have hrd := round_props (x := x) (unit := u) (mode := m) (by omega) (by omega) ⟨by omega, by omega⟩
  obtain ⟨q, hq⟩ : ∃ q, roundV x u m = q * u := ⟨_, rfl⟩
  have hyb : 0 ≤ roundV x u m ∧ roundV x u m ≤ 6001000000 := by omega
  have hmod : roundV x u m % u = 0 := by rw [hq]; exact Int.mul_emod_left _ _
  clear hq
  generalize roundV x u m = y at *
  have ht : y.tmod u = 0 := by rw [IntWalk.rem_in _ _ hyb.1]; exact hmod
  have t0 : (y % u != 0) = false := by rw [hmod]; rfl
  have z0 : (u == 0) = false := by simp; omega
  have HR := Lib.hid hrd
  have t1 : decide (u * 1000000 ≤ y * 1000000 - x) = false := by simp; omega
  have t2 : decide (y * 1000000 - x ≤ -(u * 1000000)) = false := by simp; omega
  clear ht hmod
  rcases mode_cases (m := m) ⟨by omega, by omega⟩ with rfl | rfl | rfl | rfl | rfl | rfl | rfl
  · have t3 : decide (y * 1000000 - x ≤ 0) = true := by have := HR.out.2.2.2.1 (by omega); simp; omega
    clear hrd
    go_wp2_with fail
    refine (awake_any _).mono ?_
    rintro e w9 ⟨rfl, hb⟩
    have HDr := Lib.hid (HDr.out.calc_ hb)
    clear hb
    go_wp2
    go_ret
    exact ⟨rfl, HDr.out.below⟩
  · have t3 : decide (0 ≤ y * 1000000 - x) = true := by have := HR.out.2.2.2.2.1 (by omega); simp; omega
    have t3' : decide (x ≤ y * 1000000) = true := by have := HR.out.2.2.2.2.1 (by omega); simp; omega
    clear hrd
    go_wp2_with fail
    refine (awake_any _).mono ?_
    rintro e w9 ⟨rfl, hb⟩
    have HDr := Lib.hid (HDr.out.calc_ hb)
    clear hb
    go_wp2
    go_ret
    exact ⟨rfl, HDr.out.below⟩
  · have t3 : decide (y * 1000000 - x ≤ 0) = true := by have := HR.out.2.2.2.1 (by omega); simp; omega
    clear hrd
    go_wp2_with fail
    refine (awake_any _).mono ?_
    rintro e w9 ⟨rfl, hb⟩
    have HDr := Lib.hid (HDr.out.calc_ hb)
    clear hb
    go_wp2
    go_ret
    exact ⟨rfl, HDr.out.below⟩
  · have t3 : decide (0 ≤ y * 1000000 - x) = true := by have := HR.out.2.2.2.2.1 (by omega); simp; omega
    have t3' : decide (x ≤ y * 1000000) = true := by have := HR.out.2.2.2.2.1 (by omega); simp; omega
    clear hrd
    go_wp2_with fail
    refine (awake_any _).mono ?_
    rintro e w9 ⟨rfl, hb⟩
    have HDr := Lib.hid (HDr.out.calc_ hb)
    clear hb
    go_wp2
    go_ret
    exact ⟨rfl, HDr.out.below⟩
  · have t3 : decide (2 * (y * 1000000 - x) ≤ u * 1000000) = true := by have := HR.out.2.2.2.2.2 (by omega); simp; omega
    have t4 : decide (-2 * (y * 1000000 - x) ≤ u * 1000000) = true := by have := HR.out.2.2.2.2.2 (by omega); simp; omega
    clear hrd
    go_wp2_with fail
    refine (awake_any _).mono ?_
    rintro e w9 ⟨rfl, hb⟩
    have HDr := Lib.hid (HDr.out.calc_ hb)
    clear hb
    go_wp2
    go_ret
    exact ⟨rfl, HDr.out.below⟩
  · have t3 : decide (2 * (y * 1000000 - x) ≤ u * 1000000) = true := by have := HR.out.2.2.2.2.2 (by omega); simp; omega
    have t4 : decide (-2 * (y * 1000000 - x) ≤ u * 1000000) = true := by have := HR.out.2.2.2.2.2 (by omega); simp; omega
    clear hrd
    go_wp2_with fail
    refine (awake_any _).mono ?_
    rintro e w9 ⟨rfl, hb⟩
    have HDr := Lib.hid (HDr.out.calc_ hb)
    clear hb
    go_wp2
    go_ret
    exact ⟨rfl, HDr.out.below⟩
  · have t3 : decide (2 * (y * 1000000 - x) ≤ u * 1000000) = true := by have := HR.out.2.2.2.2.2 (by omega); simp; omega
    have t4 : decide (-2 * (y * 1000000 - x) ≤ u * 1000000) = true := by have := HR.out.2.2.2.2.2 (by omega); simp; omega
    clear hrd
    go_wp2_with fail
    refine (awake_any _).mono ?_
    rintro e w9 ⟨rfl, hb⟩
    have HDr := Lib.hid (HDr.out.calc_ hb)
    clear hb
    go_wp2
    go_ret
    exact ⟨rfl, HDr.out.below⟩

end Go.Proofs.Ytflbndcdnenkdaa
