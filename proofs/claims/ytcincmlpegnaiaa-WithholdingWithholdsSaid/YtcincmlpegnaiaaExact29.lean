/-
  Contracts of Exact and Marginal, of the program and of the reference.
-/
import Derived.Test.YtcincmlpegnaiaaSplit29
namespace Go.Proofs.Ytcincmlpegnaiaa
open Go.RowKit
set_option linter.unusedVariables false
set_option linter.unusedSimpArgs false

/-- the exact tax after k brackets; the tax -/
def exTo (l : List (Int × Int)) (n : Int) (k : Nat) : Int := sumTo (fun i => snd2 l i * partF l n i) k
def exL (l : List (Int × Int)) (n : Int) : Int := exTo l n l.length
theorem exTo_zero (l : List (Int × Int)) (n : Int) : exTo l n 0 = 0 := rfl
theorem exTo_succ (l : List (Int × Int)) (n : Int) (k : Nat) : exTo l n (k + 1) = exTo l n k + snd2 l k * partF l n k := rfl
theorem exL_eq (l : List (Int × Int)) (n : Int) : exL l n = ex (fst2 l) (snd2 l) l.length n := rfl
theorem val_mono {l : List (Int × Int)} (h : Val l) : ∀ i, i + 1 < l.length → fst2 l i ≤ fst2 l (i + 1) := fun i hi => Int.le_of_lt (val_step h i hi)
theorem exTo_bd {l : List (Int × Int)} {n : Int} (h : Val l) (h0 : 0 ≤ n) (h1 : n ≤ 1000000000000) (k : Nat) (hk : k ≤ l.length) : 0 ≤ exTo l n k ∧ exTo l n k ≤ 1000000 * n := by
  have hb := sum_le_mul (F := fst2 l) (R := snd2 l) (m := l.length) (n := n) (M := 1000000) k (fun i hi => val_rate h i (by omega))
  have hs := sumTo_mono_len (f := pt (fst2 l) l.length n) k l.length hk (fun i _ => pt_nonneg i)
  rw [sum_pt_all (val_mono h) h.2.2.1 h0 (by have := h.1; omega)] at hs
  have e : exTo l n k = sumTo (fun i => snd2 l i * pt (fst2 l) l.length n i) k := rfl
  rw [e]
  omega
theorem exL_bd {l : List (Int × Int)} {n : Int} (h : Val l) (h0 : 0 ≤ n) (h1 : n ≤ 1000000000000) : 0 ≤ exL l n ∧ exL l n ≤ 1000000000000000000 := by
  have := exTo_bd h h0 h1 l.length (Nat.le_refl _)
  unfold exL
  omega
theorem prod_bd {l : List (Int × Int)} {n : Int} (h : Val l) (h0 : 0 ≤ n) (h1 : n ≤ 1000000000000) (k : Nat) (hk : k < l.length) : 0 ≤ snd2 l k * partF l n k ∧ snd2 l k * partF l n k ≤ 1000000000000000000 := by
  have a := exTo_bd h h0 h1 k (by omega)
  have b := exTo_bd h h0 h1 (k + 1) (by omega)
  rw [exTo_succ] at b
  have hr := val_rate h k hk
  have hp : 0 ≤ partF l n k := pt_nonneg k
  have := Int.mul_nonneg hr.1 hp
  omega

noncomputable def exactV (l : List (Int × Int)) (n : Int) : Int := if chk l n = 0 then exL l n else 0
/-- it returns two numbers, and nothing that was there has turned -/
def RetII (u v : Int) (w : World) (e : Ending) (w' : World) : Prop := e = .returned (.tuple #[.int .i64 u, .int .i64 v]) ∧ Below w.heap.size w w'
theorem retII_of {u v u' v' : Int} {w w' : World} (hu : u = u') (hv : v = v') (hb : Below w.heap.size w w') : RetII u' v' w (.returned (.tuple #[.int .i64 u, .int .i64 v])) w' := by
  subst hu hv; exact ⟨rfl, hb⟩

def mgL (l : List (Int × Int)) (n : Int) (k : Nat) : Int := margTo (fst2 l) (snd2 l) n k
theorem mgL_zero (l : List (Int × Int)) (n : Int) : mgL l n 0 = 0 := rfl
theorem mgL_yes {l : List (Int × Int)} {n : Int} {k : Nat} (h : fst2 l k ≤ n) : mgL l n (k + 1) = snd2 l k := by show (if fst2 l k ≤ n then _ else _) = _; rw [if_pos h]
theorem mgL_no {l : List (Int × Int)} {n : Int} {k : Nat} (h : ¬ fst2 l k ≤ n) : mgL l n (k + 1) = mgL l n k := by show (if fst2 l k ≤ n then _ else _) = _; rw [if_neg h]; rfl
noncomputable def margV (l : List (Int × Int)) (n : Int) : Int := if chk l n = 0 then mgL l n l.length else 0

section
variable (A : Option Addr) (c B : Nat) (l : List (Int × Int)) (w : World) (hr : RdP w B A l) (hB : B ≤ w.heap.size) (hl : l.length ≤ 9223372036854775807)
include hr hB hl

set_option maxHeartbeats 800000 in
theorem exact_any (n : Int) : Calls Try.prog 59 #[.slice A l.length c, .int .i64 n] w (RetII (exactV l n) (chk l n) w) := by
  have HC := Lib.hid (split_any A c B l w hr hB hl n)
  by_cases hV : Val l
  · by_cases hn : 0 ≤ n ∧ n ≤ 1000000000000
    · have hch := chk_ok hV hn.1 hn.2
      have HV : Hid (exactV l n = exTo l n l.length) := Lib.hid (by unfold exactV; rw [if_pos hch]; rfl)
      have HS : Hid (splitL l n = parts l n) := Lib.hid (by unfold splitL; rw [if_pos hch])
      have H0 := Lib.hid hch
      clear hch
      obtain ⟨b, off, rfl, hb, hc1, hc2⟩ := hr.all (by have := hV.1; omega)
      have HC2 := Lib.hid hc2
      have HVl := Lib.hid hV
      have hl24 : l.length ≤ 24 := hV.2.1
      have hl1 : 1 ≤ l.length := hV.1
      obtain ⟨hn0, hn1⟩ := hn
      clear hr hc1 hc2 hV
      go_enter Try.func59, Try.ntmps59
      go_wp2_with fail
      refine HC.out.mono ?_
      rintro e w1 ⟨A1, c1, rfl, hb1, hrd⟩
      rw [H0.out, HS.out, parts_length]
      rw [HS.out] at hrd
      obtain ⟨b1, off1, rfl, _, hcp⟩ := hrd.all (by rw [parts_length]; omega)
      rw [parts_length] at hcp
      have HCP := Lib.hid hcp
      have HB1 := Lib.hid hb1
      clear hb1 hcp hrd
      go_wp2
      go_loop [8, 22] (fun t i => ∃ k : Nat, k ≤ l.length ∧ i = .int .i64 k ∧ t = .int .i64 (exTo l n k)) (fun _ i => l.length - (intOf i).toNat)
      case atStart => exact ⟨0, Nat.zero_le _, rfl, rfl⟩
      case round =>
        obtain ⟨k, hk, rfl, rfl⟩ := hrel
        by_cases hlt : k < l.length
        · have e1 : w1.cell? ⟨b1, off1 + k, none⟩ = some (.int .i64 (partF l n k)) := by rw [HCP.out k hlt, parts_at l n k hlt]
          have e2 : w1.cell? ⟨b, off + k * 2 + 1, none⟩ = some (.int .i64 (snd2 l k)) := (HB1.out.cell (by show b < _; omega)).trans (HC2.out k hlt)
          have hp := prod_bd HVl.out hn0 hn1 k hlt
          have ht := exTo_bd HVl.out hn0 hn1 k (by omega)
          have HS2 := Lib.hid (exTo_succ l n k)
          go_wp2
          go_round
          case rel => exact ⟨k + 1, by omega, by go_num, by rw [HS2.out]⟩
          case measure => simp [intOf]; omega
        · have hkl : k = l.length := by omega
          subst hkl
          go_wp2
          go_ret2
          exact retII_of HV.out.symm H0.out.symm HB1.out
    · have hch := chk_out hV (n := n) (by omega)
      have HV : Hid (exactV l n = 0) := Lib.hid (by unfold exactV; rw [if_neg (by omega)])
      have HS : Hid (splitL l n = []) := Lib.hid (by unfold splitL; rw [if_neg (by omega)])
      have H0 := Lib.hid hch
      clear hch hr
      go_enter Try.func59, Try.ntmps59
      go_wp2_with fail
      refine HC.out.mono ?_
      rintro e w1 ⟨A1, c1, rfl, hb1, hrd⟩
      rw [H0.out, HS.out]
      have HB1 := Lib.hid hb1
      clear hb1 hrd
      go_wp2
      go_ret2
      exact retII_of HV.out.symm H0.out.symm HB1.out
  · have hch := chk_bad hV (n := n)
    have HV : Hid (exactV l n = 0) := Lib.hid (by unfold exactV; rw [if_neg (by omega)])
    have HS : Hid (splitL l n = []) := Lib.hid (by unfold splitL; rw [if_neg (by omega)])
    have H0 := Lib.hid hch
    clear hch hr
    go_enter Try.func59, Try.ntmps59
    go_wp2_with fail
    refine HC.out.mono ?_
    rintro e w1 ⟨A1, c1, rfl, hb1, hrd⟩
    rw [H0.out, HS.out]
    have HB1 := Lib.hid hb1
    clear hb1 hrd
    go_wp2
    go_ret2
    exact retII_of HV.out.symm H0.out.symm HB1.out

set_option maxHeartbeats 800000 in
theorem refExact_any (n : Int) : Calls Try.prog 61 #[.slice A l.length c, .int .i64 n] w (RetII (exactV l n) (chk l n) w) := by
  have HC := Lib.hid (refSplit_any A c B l w hr hB hl n)
  by_cases hV : Val l
  · by_cases hn : 0 ≤ n ∧ n ≤ 1000000000000
    · have hch := chk_ok hV hn.1 hn.2
      have HV : Hid (exactV l n = exTo l n l.length) := Lib.hid (by unfold exactV; rw [if_pos hch]; rfl)
      have HS : Hid (splitL l n = parts l n) := Lib.hid (by unfold splitL; rw [if_pos hch])
      have H0 := Lib.hid hch
      clear hch
      obtain ⟨b, off, rfl, hb, hc1, hc2⟩ := hr.all (by have := hV.1; omega)
      have HC2 := Lib.hid hc2
      have HVl := Lib.hid hV
      have hl24 : l.length ≤ 24 := hV.2.1
      have hl1 : 1 ≤ l.length := hV.1
      obtain ⟨hn0, hn1⟩ := hn
      clear hr hc1 hc2 hV
      go_enter Try.func61, Try.ntmps61
      go_wp2_with fail
      refine HC.out.mono ?_
      rintro e w1 ⟨A1, c1, rfl, hb1, hrd⟩
      rw [H0.out, HS.out, parts_length]
      rw [HS.out] at hrd
      obtain ⟨b1, off1, rfl, _, hcp⟩ := hrd.all (by rw [parts_length]; omega)
      rw [parts_length] at hcp
      have HCP := Lib.hid hcp
      have HB1 := Lib.hid hb1
      clear hb1 hcp hrd
      go_wp2
      go_loopw [8, 9] (fun t i wr => ∃ k : Nat, k ≤ l.length ∧ i = .int .i64 k ∧ t = .int .i64 (exTo l n k) ∧ ∃ m, wr = w1.drewN m) (fun _ i _ => l.length - (intOf i).toNat)
      case atStart => exact ⟨0, Nat.zero_le _, rfl, rfl, 0, rfl⟩
      case round =>
        obtain ⟨k, hk, rfl, rfl, m, rfl⟩ := hrel
        by_cases hlt : k < l.length
        · have e1 : w1.cell? ⟨b1, off1 + k, none⟩ = some (.int .i64 (partF l n k)) := by rw [HCP.out k hlt, parts_at l n k hlt]
          have e2 : w1.cell? ⟨b, off + k * 2 + 1, none⟩ = some (.int .i64 (snd2 l k)) := (HB1.out.cell (by show b < _; omega)).trans (HC2.out k hlt)
          have hp := prod_bd HVl.out hn0 hn1 k hlt
          have ht := exTo_bd HVl.out hn0 hn1 k (by omega)
          have HS2 := Lib.hid (exTo_succ l n k)
          rw [Int.mul_comm] at hp HS2
          have hw1 := IntWalk.i64_in (partF l n k * snd2 l k) (by omega)
          have hw2 := IntWalk.i64_in (exTo l n k + partF l n k * snd2 l k) (by omega)
          go_wp2
          go_quiet (fail)
          clear hw1 hw2
          go_wp2
          go_roundw
          case rel => exact ⟨k + 1, by omega, by go_num, by rw [HS2.out], _, rfl⟩
          case measure => simp [intOf]; omega
        · have hkl : k = l.length := by omega
          subst hkl
          go_wp2
          go_ret2
          exact retII_of HV.out.symm H0.out.symm (below_drewN HB1.out _)
    · have hch := chk_out hV (n := n) (by omega)
      have HV : Hid (exactV l n = 0) := Lib.hid (by unfold exactV; rw [if_neg (by omega)])
      have HS : Hid (splitL l n = []) := Lib.hid (by unfold splitL; rw [if_neg (by omega)])
      have H0 := Lib.hid hch
      clear hch hr
      go_enter Try.func61, Try.ntmps61
      go_wp2_with fail
      refine HC.out.mono ?_
      rintro e w1 ⟨A1, c1, rfl, hb1, hrd⟩
      rw [H0.out, HS.out]
      have HB1 := Lib.hid hb1
      clear hb1 hrd
      go_wp2
      go_ret2
      exact retII_of HV.out.symm H0.out.symm HB1.out
  · have hch := chk_bad hV (n := n)
    have HV : Hid (exactV l n = 0) := Lib.hid (by unfold exactV; rw [if_neg (by omega)])
    have HS : Hid (splitL l n = []) := Lib.hid (by unfold splitL; rw [if_neg (by omega)])
    have H0 := Lib.hid hch
    clear hch hr
    go_enter Try.func61, Try.ntmps61
    go_wp2_with fail
    refine HC.out.mono ?_
    rintro e w1 ⟨A1, c1, rfl, hb1, hrd⟩
    rw [H0.out, HS.out]
    have HB1 := Lib.hid hb1
    clear hb1 hrd
    go_wp2
    go_ret2
    exact retII_of HV.out.symm H0.out.symm HB1.out

end
end Go.Proofs.Ytcincmlpegnaiaa
