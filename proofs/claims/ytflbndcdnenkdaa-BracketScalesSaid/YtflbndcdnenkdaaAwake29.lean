/-
  Contracts of three, ints, same (of equal lists) and awake.
-/
import Derived.Test.YtflbndcdnenkdaaExact29
import Derived.Test.YtflbndcdnenkdaaScale29
import Derived.Laws.StructEq
namespace Go.Proofs.Ytflbndcdnenkdaa
open Go.RowKit
set_option linter.unusedVariables false
set_option linter.unusedSimpArgs false

set_option maxHeartbeats 800000 in
theorem ints_eq (A A' : Option Addr) (c c' B B' : Nat) (l : List Int) (w : World) (hr : RdI w B A l) (hr' : RdI w B' A' l) (hB : B ≤ w.heap.size) (hl : l.length ≤ 9223372036854775807) :
    Calls Try.prog 34 #[.slice A l.length c, .slice A' l.length c'] w (RetB true w) := by
  have d1 : ((l.length : Int) != (l.length : Int)) = false := by simp
  have HR := Lib.hid hr
  have HR' := Lib.hid hr'
  clear hr hr'
  go_enter Try.func34, Try.ntmps34
  go_wp2
  go_loopw [5] (fun i wr => ∃ k : Nat, k ≤ l.length ∧ i = .int .i64 k ∧ ∃ m, wr = w.drewN m) (fun i _ => l.length - (intOf i).toNat)
  case atStart => exact ⟨0, Nat.zero_le _, rfl, 0, rfl⟩
  case round =>
    obtain ⟨k, hk, rfl, m, rfl⟩ := hrel
    by_cases hlt : k < l.length
    · obtain ⟨b, off, rfl, _, e1⟩ := HR.out.at_ hlt
      obtain ⟨b', off', rfl, _, e2⟩ := HR'.out.at_ hlt
      have e3 : (at1 l k != at1 l k) = false := by simp
      go_wp2
      go_quiet (fail)
      go_wp2
      go_roundw
      case rel => exact ⟨k + 1, by omega, by go_num, _, rfl⟩
      case measure => simp [intOf]; omega
    · go_wp2
      go_ret
      exact ⟨rfl, below_drewN (Below.refl _ _) _⟩

set_option maxHeartbeats 800000 in
theorem same_eq (A A' : Option Addr) (c c' B B' : Nat) (l : List (Int × Int)) (w : World) (hr : RdP w B A l) (hr' : RdP w B' A' l) (hB : B ≤ w.heap.size) (hl : l.length ≤ 9223372036854775807) :
    Calls Try.prog 23 #[.slice A l.length c, .slice A' l.length c'] w (RetB true w) := by
  have d1 : ((l.length : Int) != (l.length : Int)) = false := by simp
  have HR := Lib.hid hr
  have HR' := Lib.hid hr'
  clear hr hr'
  go_enter Try.func23, Try.ntmps23
  go_wp2
  go_loopw [5] (fun i wr => ∃ k : Nat, k ≤ l.length ∧ i = .int .i64 k ∧ ∃ m, wr = w.drewN m) (fun i _ => l.length - (intOf i).toNat)
  case atStart => exact ⟨0, Nat.zero_le _, rfl, 0, rfl⟩
  case round =>
    obtain ⟨k, hk, rfl, m, rfl⟩ := hrel
    by_cases hlt : k < l.length
    · obtain ⟨b, off, rfl, _, e1, e2⟩ := HR.out.all (by omega)
      obtain ⟨b', off', rfl, _, e3, e4⟩ := HR'.out.all (by omega)
      have e1 := e1 k hlt
      have e2 := e2 k hlt
      have e3 := e3 k hlt
      have e4 := e4 k hlt
      go_wp2
      go_quiet (fail)
      go_wp2
      go_roundw
      case rel => exact ⟨k + 1, by omega, by go_num, _, rfl⟩
      case measure => simp [intOf]; omega
    · go_wp2
      go_ret
      exact ⟨rfl, below_drewN (Below.refl _ _) _⟩

def thr : List (Int × Int) := [(0, 0), (1000, 200000), (5000, 400000)]
def ThreePost (w : World) (e : Ending) (w' : World) : Prop := ∃ A c, e = .returned (.slice A thr.length c) ∧ Below w.heap.size w w' ∧ RdP w' w'.heap.size A thr
theorem rdP_new (w : World) (l : List (Int × Int)) (t : TypeId) : RdP (w.alloc (.cells (flat l).toArray t)) (w.heap.size + 1) (some ⟨w.heap.size, 0, none⟩) l := by
  intro _
  refine ⟨w.heap.size, 0, rfl, by omega, fun i j hi hj => ?_⟩
  have hg := flat_get l i hi
  have hc := fun x => (Blk.new w t (flat l).toArray).cell x
  simp only [Nat.zero_add]
  rcases (show j = 0 ∨ j = 1 by omega) with rfl | rfl
  · rw [Nat.add_zero, hc]; simpa [pairCell] using hg.1
  · rw [hc]; simpa [pairCell] using hg.2

set_option maxHeartbeats 800000 in
theorem three_any (w : World) : Calls Try.prog 37 #[] w (ThreePost w) := by
  go_enter Try.func37, Try.ntmps37
  go_wp2
  go_ret
  exact ⟨_, _, rfl, (Below.refl _ _).alloc (Nat.le_refl _) _, (rdP_new w thr _).more (by simp)⟩

theorem thr_val : Val thr := by
  refine ⟨by decide, by decide, by decide, fun i hi => ?_⟩
  have : i = 0 ∨ i = 1 ∨ i = 2 := by simp [thr] at hi; omega
  rcases this with rfl | rfl | rfl <;> (unfold okAt; decide)
theorem thr_chk : chk thr 6000 = 0 := chk_ok thr_val (by omega) (by omega)
theorem thr_exact : exactV thr 6000 = 1200000000 := by unfold exactV; rw [if_pos thr_chk]; decide
theorem thr_split : splitL thr 6000 = [1000, 4000, 1000] := by unfold splitL; rw [if_pos thr_chk]; decide
theorem thr_scale : scaleE thr 1 4 = 0 ∧ scaleL thr 1 4 = [(0, 0), (250, 200000), (1250, 400000)] := by
  have h := scale_ok (l := thr) (num := 1) (den := 4) thr_val ⟨by omega, by omega, by omega, by omega⟩
  refine ⟨h.1, h.2.trans (by decide)⟩

set_option maxHeartbeats 1600000 in
theorem awake_any (w : World) : Calls Try.prog 12 #[] w (RetB true w) := by
  go_enter Try.func12, Try.ntmps12
  go_wp2_with fail
  refine (three_any _).mono ?_
  rintro e w1 ⟨A1, c1, rfl, hb1, hr1⟩
  have HB1 := Lib.hid hb1
  have HC1 := Lib.hid (exact_any A1 c1 _ thr w1 hr1 (Nat.le_refl _) (by decide) 6000)
  rw [thr_exact, thr_chk] at HC1
  clear hb1 hr1
  go_wp2_with fail
  refine HC1.out.mono ?_
  rintro e w2 ⟨rfl, hb2⟩
  have HB2 := Lib.hid (HB1.out.trans (hb2.mono HB1.out.size))
  clear hb2
  go_wp2_with fail
  refine (three_any _).mono ?_
  rintro e w3 ⟨A3, c3, rfl, hb3, hr3⟩
  have HB3 := Lib.hid (HB2.out.trans (hb3.mono HB2.out.size))
  have HC3 := Lib.hid (split_any A3 c3 _ thr w3 hr3 (Nat.le_refl _) (by decide) 6000)
  clear hb3 hr3
  go_wp2_with fail
  refine HC3.out.mono ?_
  rintro e w4 ⟨A4, c4, rfl, hb4, hr4⟩
  rw [thr_split] at hr4
  rw [thr_split, thr_chk]
  have HB4 := Lib.hid (HB3.out.trans (hb4.mono HB3.out.size))
  have HR4 := Lib.hid hr4
  clear hb4 hr4
  go_wp2_with fail
  refine (three_any _).mono ?_
  rintro e w5 ⟨A5, c5, rfl, hb5, hr5⟩
  have HB5 := Lib.hid (HB4.out.trans (hb5.mono HB4.out.size))
  have HC5 := Lib.hid (scale_any A5 c5 _ thr w5 hr5 (Nat.le_refl _) (by decide) 1 4)
  have HR4' := Lib.hid (HR4.out.below hb5)
  have hs5 := hb5.size
  clear hb5 hr5 HR4
  go_wp2_with fail
  refine HC5.out.mono ?_
  rintro e w6 ⟨A6, c6, rfl, hb6, hr6⟩
  rw [thr_scale.2] at hr6
  rw [thr_scale.2, thr_scale.1]
  have HB6 := Lib.hid (HB5.out.trans (hb6.mono HB5.out.size))
  have hr4 := HR4'.out
  obtain ⟨b4, off4, rfl, hlt4, hc4⟩ := hr4.all (by decide)
  have f1 : w6.cell? ⟨b4, off4 + 1, none⟩ = some (.int .i64 4000) := (hb6.cell (by show b4 < _; omega)).trans (hc4 1 (by decide))
  obtain ⟨b6, off6, rfl, hlt6, hc6, hc6'⟩ := hr6.all (by decide)
  have f2 : w6.cell? ⟨b6, off6 + 4, none⟩ = some (.int .i64 1250) := hc6 2 (by decide)
  clear hc4 hc6 hc6' hr4 hr6 hb6 HR4'
  go_wp2
  go_ret
  exact ⟨rfl, HB6.out⟩
end Go.Proofs.Ytflbndcdnenkdaa
