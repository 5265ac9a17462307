/-
  The walk of the law BracketSplits.
-/
import Derived.Test.YtflbndcdnenkdaaLaws29
namespace Go.Proofs.Ytflbndcdnenkdaa
open Go.RowKit
set_option linter.unusedVariables false
set_option linter.unusedSimpArgs false

theorem split_ok {w W : World} {g : Nat} {N : Int} {A : Option Addr} {l : List (Int × Int)} (c : Nat) (h : Dr w g N A l W) (hV : Val l) (n : Int) (h0 : 0 ≤ n) (h1 : n ≤ 1000000000000) :
    Calls Try.prog 20 #[.slice A l.length c, .int .i64 n] W fun e w' => ∃ A' c', e = .returned (.tuple #[.slice A' (parts l n).length c', .int .i64 0]) ∧ Below W.heap.size W w' ∧ RdI w' w'.heap.size A' (parts l n) := by
  have := split_any A c _ l W h.rd (Nat.le_refl _) (by have := hV.2.1; omega) n
  have hc := chk_ok hV h0 h1
  have hs : splitL l n = parts l n := by unfold splitL; rw [if_pos hc]
  unfold SplitPost at this
  rwa [hc, hs] at this
theorem sum_part_bd {l : List (Int × Int)} {n : Int} (h : Val l) (h0 : 0 ≤ n) (h1 : n ≤ 1000000000000) (k : Nat) (hk : k ≤ l.length) : 0 ≤ sumTo (partF l n) k ∧ sumTo (partF l n) k ≤ 1000000000000 := by
  have hs := sumTo_mono_len (f := pt (fst2 l) l.length n) k l.length hk (fun i _ => pt_nonneg i)
  rw [sum_pt_all (val_mono h) h.2.2.1 h0 (by have := h.1; omega)] at hs
  have h2 := sumTo_nonneg (f := pt (fst2 l) l.length n) k (fun i _ => pt_nonneg i)
  exact ⟨h2, Int.le_trans hs h1⟩
theorem part_le {l : List (Int × Int)} {n : Int} (h : Val l) (h0 : 0 ≤ n) (h1 : n ≤ 1000000000000) (k : Nat) (hk : k < l.length) : partF l n k ≤ 1000000000000 :=
  Int.le_trans (pt_le k (val_from h k hk).1 h0) h1

set_option maxRecDepth 100000 in
set_option maxHeartbeats 3200000 in
theorem bracketSplits_walk (A0 : Option Addr) (c0 : Nat) (l0 : List Int) (w : World) (hr0 : RdI w w.heap.size A0 l0) (hl0 : l0.length ≤ 9223372036854775807) (hb0 : ∀ i, i < l0.length → InR (at1 l0 i)) :
    Calls Try.prog 4 #[.slice A0 l0.length c0] w (RetB true w) := by
  go_enter Try.func4, Try.ntmps4
  go_wp2_with fail
  refine (law_start false (P := fun _ _ _ => True) A0 c0 l0 w hr0 hl0).mono ?_
  rintro e w1 ⟨rfl, hbr⟩
  have HBR := Lib.hid hbr
  clear hbr hr0 hb0 
  generalize hg : w.heap.size = g at *
  have HG := Lib.hid hg
  clear hg
  go_wp2_with fail
  refine HBR.out.mono ?_
  rintro e w2 ⟨A, c, l, rfl, hgen, _, _, hdr⟩
  have hl4 := hgen.2.1
  have hl1 := hgen.1
  have HV := Lib.hid (gen_val hgen)
  have HGen := Lib.hid hgen
  have HDr := Lib.hid hdr
  clear hgen hdr HBR
  go_wp2_with fail
  refine (income_any A c _ g l 20 _ HDr.out.rd (Nat.le_refl _) HDr.out.ne false HGen.out HDr.out.deck (by omega)).mono ?_
  rintro e w3 ⟨n, rfl, hn, ho, hD⟩
  have HDr := Lib.hid (HDr.out.draw ho hD)
  clear ho hD
  go_wp2_with fail
  refine (split_ok c HDr.out HV.out n (by omega) (by omega)).mono ?_
  rintro e w4 ⟨A4, c4, rfl, hb, hr4⟩
  have HDr := Lib.hid (HDr.out.calc_ hb)
  have HR4 := Lib.hid hr4
  clear hb hr4
  have HPL := Lib.hid (parts_length l n)
  go_wp2_with fail
  refine (exact_ok c HDr.out HV.out n (by omega) (by omega)).mono ?_
  rintro e w5 ⟨rfl, hb⟩
  have HDr := Lib.hid (HDr.out.calc_ hb)
  have HR4 := Lib.hid (HR4.out.below hb)
  clear hb
  obtain ⟨b4, off4, rfl, _, hc4⟩ := HR4.out.all (by rw [HPL.out]; omega)
  rw [HPL.out] at hc4
  have HC4 := Lib.hid hc4
  obtain ⟨b, off, rfl, _, hc1, hc2⟩ := HDr.out.rd.all (by omega)
  have HC1 := Lib.hid hc1
  have HC2 := Lib.hid hc2
  clear hc4 hc1 hc2
  rw [HPL.out]
  have t0 : ((l.length : Int) != (l.length : Int)) = false := by simp
  have hd3 : ∀ k, k ≤ l.length → Hid (0 ≤ exTo l n k ∧ exTo l n k ≤ 1000000 * n) := fun k hk => Lib.hid (exTo_bd HV.out (by omega) (by omega) k hk)
  have HD3 := Lib.hid hd3
  clear hd3
  go_wp2
  go_loopw [10, 11, 12] (fun s t i wr => ∃ k : Nat, k ≤ l.length ∧ i = .int .i64 k ∧ s = .int .i64 (sumTo (partF l n) k) ∧ t = .int .i64 (exTo l n k) ∧ ∃ m, wr = w5.drewN m) (fun _ _ i _ => l.length - (intOf i).toNat)
  case atStart => exact ⟨0, Nat.zero_le _, rfl, rfl, rfl, 0, rfl⟩
  case round =>
    obtain ⟨k, hk, rfl, rfl, rfl, mm, rfl⟩ := hrel
    have hsb : 0 ≤ sumTo (partF l n) k ∧ sumTo (partF l n) k ≤ 1000000000000 := sum_part_bd HV.out (by omega) (by omega) k hk
    have htb := (HD3.out k hk).out
    by_cases hlt : k < l.length
    · have e1 : w5.cell? ⟨b4, off4 + k, none⟩ = some (.int .i64 (partF l n k)) := by rw [HC4.out k hlt, parts_at l n k hlt]
      have e2 : w5.cell? ⟨b, off + k * 2, none⟩ = some (.int .i64 (fst2 l k)) := HC1.out k hlt
      have e3 : w5.cell? ⟨b, off + k * 2 + 1, none⟩ = some (.int .i64 (snd2 l k)) := HC2.out k hlt
      have hp := prod_bd HV.out (n := n) (by omega) (by omega) k hlt
      have hpp : 0 ≤ partF l n k := pt_nonneg k
      have hpn : partF l n k ≤ 1000000000000 := part_le HV.out (by omega) (by omega) k hlt
      have HS1 : Hid (sumTo (partF l n) (k + 1) = sumTo (partF l n) k + partF l n k) := rfl
      have HS2 := Lib.hid (exTo_succ l n k)
      rw [Int.mul_comm] at hp HS2
      have hf := val_from HV.out k hlt
      have hneg : decide (partF l n k < 0) = false := by simp; omega
      by_cases hk1 : k + 1 < l.length
      · have e4 : w5.cell? ⟨b4, off4 + (k + 1), none⟩ = some (.int .i64 (partF l n (k + 1))) := by rw [HC4.out (k + 1) hk1, parts_at l n (k + 1) hk1]
        have e5 : w5.cell? ⟨b, off + (k + 1) * 2, none⟩ = some (.int .i64 (fst2 l (k + 1))) := HC1.out (k + 1) hk1
        have hf1 := val_from HV.out (k + 1) hk1
        have hk1' : decide ((k : Int) + 1 < (l.length : Int)) = true := by simp; omega
        have hk1i : ((k : Int) + 1) < (l.length : Int) := by omega
        have wk := IntWalk.i64_in ((k : Int) + 1) (by omega)
        have wkn : ((k : Int) + 1).toNat = k + 1 := by omega
        have wk0 : (0 : Int) ≤ (k : Int) + 1 := by omega
        have w1' := IntWalk.i64_in (partF l n k * snd2 l k) (by omega)
        have w2' := IntWalk.i64_in (exTo l n k + partF l n k * snd2 l k) (by omega)
        have w3' := IntWalk.i64_in (fst2 l (k + 1) - fst2 l k) (by omega)
        rcases bool_cases (0 < partF l n (k + 1)) with tp | tp
        · have hfull : partF l n k = fst2 l (k + 1) - fst2 l k := full_before (F := fst2 l) k (val_mono HV.out k hk1) hk1 (of_decide_eq_true tp)
          have tq : (partF l n k != fst2 l (k + 1) - fst2 l k) = false := by simp [hfull]
          clear hfull
          go_wp2
          go_quiet (fail)
          go_wp2
          go_quiet (fail)
          clear wk wkn w1' w2' w3'
          go_wp2
          go_roundw
          case rel => exact ⟨k + 1, by omega, by go_num, by rw [HS1.out], by rw [HS2.out], _, rfl⟩
          case measure => simp [intOf]; omega
        · go_wp2
          go_quiet (fail)
          go_wp2
          go_quiet (fail)
          clear wk wkn w1' w2' w3'
          go_wp2
          go_roundw
          case rel => exact ⟨k + 1, by omega, by go_num, by rw [HS1.out], by rw [HS2.out], _, rfl⟩
          case measure => simp [intOf]; omega
      · have hk1' : decide ((k : Int) + 1 < (l.length : Int)) = false := by simp; omega
        have wk := IntWalk.i64_in ((k : Int) + 1) (by omega)
        have w1' := IntWalk.i64_in (partF l n k * snd2 l k) (by omega)
        have w2' := IntWalk.i64_in (exTo l n k + partF l n k * snd2 l k) (by omega)
        go_wp2
        go_quiet (fail)
        go_wp2
        go_quiet (fail)
        clear wk w1' w2'
        go_wp2
        go_roundw
        case rel => exact ⟨k + 1, by omega, by go_num, by rw [HS1.out], by rw [HS2.out], _, rfl⟩
        case measure => simp [intOf]; omega
    · have hkl : k = l.length := by omega
      subst hkl
      have hsum : sumTo (partF l n) l.length = n := sum_pt_all (F := fst2 l) (val_mono HV.out) HV.out.2.2.1 (by omega) (by omega)
      rw [hsum]
      have q1 : (n == n) = true := by simp
      have q2 : (exTo l n l.length == exL l n) = true := by simp [exL]
      clear hsum
      go_wp2_with fail
      refine (awake_any _).mono ?_
      rintro e w6 ⟨rfl, hb⟩
      have HB6 := Lib.hid ((below_drewN HDr.out.below mm).trans (hb.mono HDr.out.below.size))
      clear hb
      go_wp2
      go_ret
      exact ⟨rfl, HB6.out⟩

end Go.Proofs.Ytflbndcdnenkdaa
