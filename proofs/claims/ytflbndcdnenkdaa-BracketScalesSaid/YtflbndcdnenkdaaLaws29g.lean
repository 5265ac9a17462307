/-
  The walk of the law BracketScales.
-/
import Derived.Test.YtflbndcdnenkdaaLaws29
import Derived.Test.YtflbndcdnenkdaaPlain29c
namespace Go.Proofs.Ytflbndcdnenkdaa
open Go.RowKit
set_option linter.unusedVariables false
set_option linter.unusedSimpArgs false

theorem deck_ne {W : World} {g B : Nat} {N : Int} {A : Option Addr} {S : List (Int × Int)} (hD : Deck W g N) (hr : RdP W B A S) (hS : 0 < S.length) : ∀ b off, A = some ⟨b, off, none⟩ → b ≠ g := by
  rintro b off rfl rfl
  obtain ⟨b', off', e, _, h1, h2⟩ := hr.all hS
  injection e with e
  injection e with e1 e2 _
  subst e1 e2
  obtain ⟨A0, c0, l0, k0, hb, _⟩ := hD
  have c1 := h1 0 hS
  have c2 := h2 0 hS
  rw [Nat.zero_mul, Nat.add_zero] at c1 c2
  rw [hb.cell] at c1 c2
  rcases off with _ | _ | off
  · simp at c1
  · simp at c2
  · simp at c1

set_option maxRecDepth 100000 in
set_option maxHeartbeats 3200000 in
theorem bracketScales_walk (A0 : Option Addr) (c0 : Nat) (l0 : List Int) (w : World) (hr0 : RdI w w.heap.size A0 l0) (hl0 : l0.length ≤ 9223372036854775807) (hb0 : ∀ i, i < l0.length → InR (at1 l0 i)) :
    Calls Try.prog 5 #[.slice A0 l0.length c0] w (RetB true w) := by
  go_enter Try.func5, Try.ntmps5
  go_wp2_with fail
  refine (law_start false (P := fun _ _ _ => True) A0 c0 l0 w hr0 hl0).mono ?_
  rintro e w1 ⟨rfl, hbr⟩
  have HBR := Lib.hid hbr
  clear hbr hr0 hb0 
  generalize hg : w.heap.size = g at *
  have HG := Lib.hid hg
  clear hg
  go_wp2_with fail
  refine HBR.out.mono ?_
  rintro e w2 ⟨A, c, l, rfl, hgen, _, _, hdr⟩
  have hl4 := hgen.2.1
  have hl1 := hgen.1
  have HV := Lib.hid (gen_val hgen)
  have HGen := Lib.hid hgen
  have HDr := Lib.hid hdr
  clear hgen hdr HBR
  go_wp2_with fail
  refine (next_any g 20 _ _ HDr.out.deck (by omega) (by omega) (by omega)).mono ?_
  rintro e w3 ⟨d0, rfl, hd0, ho, hD⟩
  have HDr := Lib.hid (HDr.out.draw ho hD)
  clear ho hD
  obtain ⟨den, hden⟩ : ∃ den : Int, 1 + d0 = den := ⟨_, rfl⟩
  have hdb : 1 ≤ den ∧ den ≤ 12 := by omega
  go_wp2_with fail
  refine (next_any g (20 + 1) (den + 1) _ HDr.out.deck (by omega) (by omega) (by omega)).mono ?_
  rintro e w4 ⟨num, rfl, hnum, ho, hD⟩
  have HDr := Lib.hid (HDr.out.draw ho hD)
  clear ho hD
  have HDen := Lib.hid hden
  clear hden
  have hsk : scOk num den := ⟨by omega, by omega, by omega, by omega⟩
  have hsd : scOk den den := ⟨by omega, by omega, by omega, by omega⟩
  have HSK := Lib.hid hsk
  have HSV := Lib.hid (scale_val HV.out hsk)
  have HSC := Lib.hid (scale_ok HV.out hsk)
  have HSD : Hid (scaleE l den den = 0 ∧ scaleL l den den = l) := Lib.hid ⟨(scale_ok HV.out hsd).1, (scale_ok HV.out hsd).2.trans (scale_one HV.out (by omega))⟩
  clear hsk hsd
  go_wp2_with fail
  refine (scale_any A c _ l _ HDr.out.rd (Nat.le_refl _) (by omega) num den).mono ?_
  rintro e w5 ⟨A1, c1, rfl, hb, hr1⟩
  rw [HSC.out.2] at hr1
  rw [HSC.out.1, HSC.out.2]
  have HDr := Lib.hid (HDr.out.calc_ hb)
  have HR1 := Lib.hid hr1
  have hsl : (dd (sc l num den)).length ≤ 24 := HSV.out.2.1
  clear hb hr1 HSC
  have HNear := Lib.hid (fun n x hx => scale_near_all (n := n) (x := x) HV.out HSK.out hx)
  generalize dd (sc l num den) = S at *
  go_wp2_with fail
  refine (scale_any A c _ l _ HDr.out.rd (Nat.le_refl _) (by omega) den den).mono ?_
  rintro e w6 ⟨A2, c2, rfl, hb, hr2⟩
  rw [HSD.out.2] at hr2
  rw [HSD.out.1, HSD.out.2]
  have HDr := Lib.hid (HDr.out.calc_ hb)
  have HR1 := Lib.hid (HR1.out.below hb)
  have HR2 := Lib.hid hr2
  have hz6 := hb.size
  clear hb hr2 HSD
  go_wp2_with fail
  refine (valid_t A1 c1 _ S _ HR1.out (by omega) (by omega) HSV.out).mono ?_
  rintro e w7 ⟨rfl, hb⟩
  have HDr := Lib.hid (HDr.out.calc_ hb)
  have HR1 := Lib.hid (HR1.out.below (hb.mono hz6))
  have HR2 := Lib.hid (HR2.out.below hb)
  have hz7 := hb.size
  clear hb
  go_wp2_with fail
  refine (same_eq A2 A c2 c _ _ l _ HR2.out HDr.out.rd (by omega) (by omega)).mono ?_
  rintro e w8 ⟨rfl, hb⟩
  have HDr := Lib.hid (HDr.out.calc_ hb)
  have HR1 := Lib.hid (HR1.out.below (hb.mono (by omega)))
  have hz8 := hb.size
  clear hb HR2
  go_wp2_with fail
  refine (small_any g (20 + 1 + 1) _ HDr.out.deck (by omega)).mono ?_
  rintro e w9 ⟨sm, rfl, hsm, ho, hD⟩
  have HNE1 := Lib.hid (deck_ne HDr.out.deck HR1.out (by have := HSV.out.1; omega))
  have HDr := Lib.hid (HDr.out.draw ho hD)
  have hz9 := ho.size
  have HR1 := Lib.hid (RdP.far HR1.out ho HNE1.out)
  clear ho hD
  have hp : 0 ≤ 10 * sm * den ∧ 10 * sm * den ≤ 72000000 := ⟨Int.mul_nonneg (by omega) (by omega), by
    have := Int.mul_le_mul (show 10 * sm ≤ 6000000 by omega) hdb.2 (by omega) (by omega)
    omega⟩
  have hq : 10 * sm * den / den = 10 * sm := Int.mul_ediv_cancel _ (by omega)
  have hp2 : 0 ≤ 10 * sm * num ∧ 10 * sm * num ≤ 72000000 := ⟨Int.mul_nonneg (by omega) (by omega), by
    have := Int.mul_le_mul (show 10 * sm ≤ 6000000 by omega) (show num ≤ 12 by omega) (by omega) (by omega)
    omega⟩
  have hz : (den == 0) = false := by simp; omega
  go_wp2_with fail
  refine (exact_ok c HDr.out HV.out (10 * sm * den) (by omega) (by omega)).mono ?_
  rintro e w10 ⟨rfl, hb⟩
  have HDr := Lib.hid (HDr.out.calc_ hb)
  have HR1 := Lib.hid (HR1.out.below (hb.mono (by omega)))
  have hz10 := hb.size
  clear hb
  have HE2 : Hid (∀ W, RdP W w5.heap.size A1 S → w5.heap.size ≤ W.heap.size → Calls Try.prog 21 #[.slice A1 S.length c1, .int .i64 (10 * sm * num)] W (RetII (exL S (10 * sm * num)) 0 W)) := Lib.hid (fun W hW hs => by
    have := exact_any A1 c1 _ S W hW hs (by omega) (10 * sm * num)
    have hc := chk_ok (n := 10 * sm * num) HSV.out hp2.1 (by omega)
    rw [hc] at this
    unfold exactV at this
    rwa [if_pos hc] at this)
  go_wp2_with fail
  refine (HE2.out _ HR1.out (by omega)).mono ?_
  rintro e w11 ⟨rfl, hb⟩
  have HDr := Lib.hid (HDr.out.calc_ hb)
  clear hb HE2
  have x1 := exTo_bd (n := 10 * sm * den) HV.out hp.1 (by omega) l.length (Nat.le_refl _)
  have x2 := exTo_bd (n := 10 * sm * num) HSV.out hp2.1 (by omega) S.length (Nat.le_refl _)
  change 0 ≤ exL l (10 * sm * den) ∧ exL l (10 * sm * den) ≤ _ at x1
  change 0 ≤ exL S (10 * sm * num) ∧ exL S (10 * sm * num) ≤ _ at x2
  have x3 := HNear.out (10 * sm * den) (10 * sm * num) (by rw [Int.mul_comm den (10 * sm * num), Int.mul_comm num (10 * sm * den), Int.mul_assoc (10 * sm) num den, Int.mul_assoc (10 * sm) den num, Int.mul_comm num den])
  generalize exL l (10 * sm * den) = a at *
  generalize exL S (10 * sm * num) = b at *
  have y1 : 0 ≤ a * num ∧ a * num ≤ 72000000000000 * 12 := ⟨Int.mul_nonneg x1.1 (by omega), Int.mul_le_mul (by omega) (by omega) (by omega) (by omega)⟩
  have y2 : 0 ≤ b * den ∧ b * den ≤ 72000000000000 * 12 := ⟨Int.mul_nonneg x2.1 (by omega), Int.mul_le_mul (by omega) (by omega) (by omega) (by omega)⟩
  have y3 : 0 ≤ (l.length : Int) * den ∧ (l.length : Int) * den ≤ 4 * 12 := ⟨Int.mul_nonneg (by omega) (by omega), Int.mul_le_mul (by omega) hdb.2 (by omega) (by omega)⟩
  rw [← Int.mul_assoc] at x3
  have t1 : decide (b * den - a * num ≤ (l.length : Int) * den * 1000000) = true := by simp; omega
  have t2 : decide (a * num - b * den ≤ (l.length : Int) * den * 1000000) = true := by simp; omega
  clear x1 x2 x3 hq
  go_wp2_with fail
  refine (awake_any _).mono ?_
  rintro e w12 ⟨rfl, hb⟩
  have HDr := Lib.hid (HDr.out.calc_ hb)
  clear hb
  go_wp2
  go_ret
  exact ⟨rfl, HDr.out.below⟩

end Go.Proofs.Ytflbndcdnenkdaa
