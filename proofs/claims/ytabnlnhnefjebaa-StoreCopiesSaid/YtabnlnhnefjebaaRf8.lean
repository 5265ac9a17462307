/-
  Chapter 41: Same of the reference, at equal lists: the walk. The memory is that of the given program; no conditions.
-/
import Derived.Test.YtabnlnhnefjebaaRf7
namespace Go.Proofs.Ytabnlnhnefjebaa
open Go.RowKit
set_option linter.unusedVariables false
set_option linter.unusedSimpArgs false
theorem own_drewN {w : World} {base n size k : Nat} {e : TypeId} {v : Value} {xs : List Value} (h : w.ownsRow base e size v n xs) : (w.drewN k).ownsRow base e size v n xs := h
set_option maxHeartbeats 1600000 in
theorem same_true (A A' : Option Addr) (c c' n : Nat) (rs : List (List Int)) (vs vs' : List Value) (lo lo' : Nat) (w : World) (hn : Hid (rs.length = n)) (h : w.ownsRow lo 23 1 (.slice A n c) n vs) (hr : RecV w lo rs vs) (h' : w.ownsRow lo' 23 1 (.slice A' n c') n vs') (hr' : RecV w lo' rs vs') (hl : n ≤ 100000) :
    Calls Try.prog 29 #[.slice A n c, .slice A' n c'] w (RetB true w) := by
  have HO : Hid (w.ownsRow lo 23 1 (.slice A rs.length c) rs.length vs) := Lib.hid (by rw [hn.out]; exact h)
  have HO' : Hid (w.ownsRow lo' 23 1 (.slice A' rs.length c') rs.length vs') := Lib.hid (by rw [hn.out]; exact h')
  have HR := Lib.hid hr
  have HR' := Lib.hid hr'
  have hne : ((n : Int) != (n : Int)) = false := by simp
  clear h hr h' hr'
  go_enter Try.func29, Try.ntmps29
  go_wp2
  go_loopw [5] (fun v wr => ∃ k m : Nat, k ≤ n ∧ v = .int .i64 k ∧ wr = w.drewN m) (fun v _ => n - (intOf v).toNat)
  case atStart => exact ⟨0, 0, Nat.zero_le _, rfl, rfl⟩
  case round =>
    obtain ⟨k, m, hk, rfl, rfl⟩ := hrel
    by_cases hlt : k < n
    · have hkr : k < rs.length := by rw [hn.out]; exact hlt
      obtain ⟨g, rfl, hg⟩ := recs_addr HO.out (by omega)
      obtain ⟨g', rfl, hg'⟩ := recs_addr HO'.out (by omega)
      obtain ⟨Ak, ck, hcell, hrow⟩ := recs_cell HO.out HR.out rfl hkr
      obtain ⟨Ak', ck', hcell', hrow'⟩ := recs_cell HO'.out HR'.out rfl hkr
      have HC := Lib.hid hcell
      have HC' := Lib.hid hcell'
      have HW := Lib.hid hrow
      have HW' := Lib.hid hrow'
      clear hcell hcell' hrow hrow'
      go_upto_region 6 with (fail)
      refine same_region 6 17 0 1 5 (by kernel_rfl) (by decide) (by decide) (by decide) (show 27 < 28 from by decide) g n c g' n c' k _ ck _ ck' Ak Ak' _ rfl rfl rfl hlt hlt HC.out HC'.out (str_own (own_drewN HW.out)) (fun j => str_own (own_drewN (own_drewN HW.out))) (fun j => str_own (own_drewN (own_drewN HW'.out))) ?_
      intro z0 z1 z2 z3 z4 z5 z6 z7 z8 z9 nq
      simp only [Nat.reduceAdd, Act.put, List.setIfInBounds_toArray, List.set_cons_zero, List.set_cons_succ]
      go_wp2
      go_roundw
      case rel => exact ⟨k + 1, m + nq, by omega, by go_num, rfl⟩
      case measure => simp [intOf]; omega
    · go_wp2
      go_ret
      exact ⟨rfl, below_drewN (Below.refl _ _) _⟩
end Go.Proofs.Ytabnlnhnefjebaa
