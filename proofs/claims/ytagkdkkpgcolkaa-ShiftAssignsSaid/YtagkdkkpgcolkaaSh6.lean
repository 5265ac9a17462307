/-
  Chapter 10: to which shift a stay belongs, of the program. The memory is that of the given program; no conditions.
-/
import Derived.Test.YtagkdkkpgcolkaaSh5
namespace Go.Proofs.Ytagkdkkpgcolkaa
open Go.RowKit
set_option linter.unusedVariables false
set_option linter.unusedSimpArgs false
/-- bounds of spans -/
def SBd (S : List (Int × Int)) : Prop := ∀ i, i < S.length → 0 ≤ fst2 S i ∧ fst2 S i ≤ 120968640 ∧ 0 ≤ snd2 S i ∧ snd2 S i ≤ 120970080
theorem bl_yes {S : List (Int × Int)} {t early late : Int} {k : Nat} {p : Int × Int} (hp : p = blTo S t early late k) (hc : canB (fst2 S k) (snd2 S k) t early late) (h : p.1 < 0 ∨ absI (t - fst2 S k) < p.2) : blTo S t early late (k + 1) = ((k : Int), absI (t - fst2 S k)) := by
  subst hp; rw [blTo, if_pos ⟨hc, h⟩]
theorem bl_no {S : List (Int × Int)} {t early late : Int} {k : Nat} {p : Int × Int} (hp : p = blTo S t early late k) (h : ¬ (canB (fst2 S k) (snd2 S k) t early late ∧ (p.1 < 0 ∨ absI (t - fst2 S k) < p.2))) : blTo S t early late (k + 1) = p := by
  subst hp; rw [blTo, if_neg h]
set_option maxRecDepth 100000 in
set_option maxHeartbeats 3200000 in
theorem belongs_any (A : Option Addr) (c n : Nat) (S : List (Int × Int)) (t early late : Int) (w : World) (hn : Hid (n = S.length)) (hr : RdP w w.heap.size A S) (hl : n ≤ 100000) (hS : SBd S) (ht0 : 0 ≤ t) (ht1 : t ≤ 120968640) (he0 : 0 ≤ early) (he1 : early ≤ 1440) (hl0 : 0 ≤ late) (hl1 : late ≤ 1440) :
    Calls Try.prog 37 #[.slice A n c, .int .i64 t, .int .i64 early, .int .i64 late] w (RetI (blV S t early late) w) := by
  have HR := Lib.hid hr
  have HS := Lib.hid hS
  clear hr hS
  go_enter Try.func37, Try.ntmps37
  go_wp2
  go_loopw [9, 10, 18] (fun v9 v10 i wr => ∃ (k : Nat) (p : Int × Int), k ≤ n ∧ i = .int .i64 k ∧ p = blTo S t early late k ∧ v9 = .int .i64 p.1 ∧ v10 = .int .i64 p.2 ∧ Below w.heap.size w wr) (fun _ _ i _ => n - (intOf i).toNat)
  case atStart => exact ⟨0, (-1, 0), Nat.zero_le _, rfl, rfl, rfl, rfl, Below.refl _ _⟩
  case round =>
    obtain ⟨k, ⟨b0, n0⟩, hk, rfl, hp, rfl, rfl, hb⟩ := hrel
    have HP := Lib.hid hp
    have HB := Lib.hid hb
    clear hp hb
    by_cases hlt : k < n
    · have hkS : k < S.length := by rw [← hn.out]; exact hlt
      obtain ⟨g, off, rfl, hg, h0, h1⟩ := HR.out.all (by omega)
      have c0 := (HB.out.cell (p := ⟨g, off + k * 2, none⟩) hg).trans (h0 k hkS)
      have c1 := (HB.out.cell (p := ⟨g, off + k * 2 + 1, none⟩) hg).trans (h1 k hkS)
      have hbd := HS.out k hkS
      have HY := Lib.hid (fun (hc : canB (fst2 S k) (snd2 S k) t early late) (h : b0 < 0 ∨ absI (t - fst2 S k) < n0) => bl_yes HP.out hc h)
      have HN := Lib.hid (fun (h : ¬ (canB (fst2 S k) (snd2 S k) t early late ∧ (b0 < 0 ∨ absI (t - fst2 S k) < n0))) => bl_no HP.out h)
      have HBW : Hid (∀ o, Below w.heap.size w (wr.alloc o)) := Lib.hid (fun o => HB.out.alloc HB.out.size o)
      clear h0 h1 HP
      obtain ⟨a, Ha⟩ : ∃ a, Hid (a = fst2 S k) := ⟨_, Lib.hid rfl⟩
      obtain ⟨b, Hb⟩ : ∃ b, Hid (b = snd2 S k) := ⟨_, Lib.hid rfl⟩
      rw [← Ha.out] at c0 hbd HY HN
      rw [← Hb.out] at c1 hbd HY HN
      obtain ⟨q1, q2, q3, q4⟩ := hbd
      by_cases hd : 0 ≤ t - a
      · have HA : Hid (absI (t - a) = t - a) := Lib.hid (by unfold absI; omega)
        rw [HA.out] at HY HN
        go_wp2
        all_goals
          go_roundw
          case rel =>
            by_cases hc : canB a b t early late ∧ (b0 < 0 ∨ t - a < n0)
            · first
                | refine ⟨k + 1, _, ?_, ?_, (HY.out hc.1 hc.2).symm, rfl, ?_, HBW.out _⟩
                | (exfalso; unfold canB at hc; (try simp only [Bool.not_eq_true', Bool.not_eq_false', decide_eq_true_eq, decide_eq_false_iff_not] at *); omega)
              all_goals (first | omega | rfl | go_num | (congr 1; omega))
            · first
                | refine ⟨k + 1, _, ?_, ?_, (HN.out hc).symm, rfl, rfl, HBW.out _⟩
                | (exfalso; unfold canB at hc; (try simp only [Bool.not_eq_true', Bool.not_eq_false', decide_eq_true_eq, decide_eq_false_iff_not] at *); omega)
              all_goals (first | omega | rfl | go_num | (congr 1; omega))
          case measure => simp [intOf]; omega
      · have HA : Hid (absI (t - a) = -(t - a)) := Lib.hid (by unfold absI; omega)
        rw [HA.out] at HY HN
        go_wp2
        all_goals
          go_roundw
          case rel =>
            by_cases hc : canB a b t early late ∧ (b0 < 0 ∨ -(t - a) < n0)
            · first
                | refine ⟨k + 1, _, ?_, ?_, (HY.out hc.1 hc.2).symm, rfl, ?_, HBW.out _⟩
                | (exfalso; unfold canB at hc; (try simp only [Bool.not_eq_true', Bool.not_eq_false', decide_eq_true_eq, decide_eq_false_iff_not] at *); omega)
              all_goals (first | omega | rfl | go_num | (congr 1; omega))
            · first
                | refine ⟨k + 1, _, ?_, ?_, (HN.out hc).symm, rfl, rfl, HBW.out _⟩
                | (exfalso; unfold canB at hc; (try simp only [Bool.not_eq_true', Bool.not_eq_false', decide_eq_true_eq, decide_eq_false_iff_not] at *); omega)
              all_goals (first | omega | rfl | go_num | (congr 1; omega))
          case measure => simp [intOf]; omega
    · obtain rfl : k = n := by omega
      have HV : Hid (blV S t early late = b0) := Lib.hid (by unfold blV; rw [← hn.out, ← HP.out])
      go_wp2
      go_ret
      exact ⟨ret_int HV.out.symm, HB.out⟩
end Go.Proofs.Ytagkdkkpgcolkaa
