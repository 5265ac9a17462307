/-
  Contract of sane: it returns true.
-/
import Derived.Test.YtmahhpemljopiaaClock
import Derived.Test.YtmahhpemljopiaaPair
namespace Go.Proofs.Ytmahhpemljopiaa
open Go.RowKit
set_option linter.unusedVariables false
set_option linter.unusedSimpArgs false

theorem sane_z0 : zerr 120 [(1440000, 60)] = 0 := by decide
theorem sane_z1 : zerr 60 [] = 0 := by decide
theorem sane_i : instL 120 [(1440000, 60)] 1440090 = [1439970, 1440030] := by decide
theorem sane_b : begR 60 [] 1 = 1380 := by
  unfold begR
  rw [if_pos ⟨sane_z1, by omega, by omega⟩]
  decide
theorem sane_be : begE 60 [] 1 = 0 := by
  unfold begE
  rw [if_pos sane_z1, if_pos ⟨by omega, by omega⟩]
theorem sane_l : locV 120 [(1440000, 60)] 1440000 = 1440060 ∧ offE 120 [(1440000, 60)] 1440000 = 0 := by
  have h := off_ok (t := 1440000) sane_z0 ⟨by omega, by omega⟩
  refine ⟨?_, h.1⟩
  unfold locV
  rw [if_pos h.1]
  decide
theorem rdP_one (w : World) (a b : Int) (t : TypeId) : RdP (w.alloc (.cells #[.int .i64 a, .int .i64 b] t)) (w.heap.size + 1) (some ⟨w.heap.size, 0, none⟩) [(a, b)] := by
  intro _
  refine ⟨w.heap.size, 0, rfl, by omega, fun i j hi hj => ?_⟩
  have hi0 : i = 0 := by simpa using hi
  subst hi0
  have := (Blk.new w t #[.int .i64 a, .int .i64 b]).cell j
  simp only [Nat.zero_mul, Nat.add_zero, Nat.zero_add]
  rw [this]
  rcases (show j = 0 ∨ j = 1 by omega) with rfl | rfl <;> simp [pairCell, fst2, snd2]

set_option maxHeartbeats 800000 in
theorem sane_any (w : World) : Calls Try.prog 14 #[] w (RetB true w) := by
  have HB0 : Hid (∀ o o2, Below w.heap.size w ((w.alloc o).alloc o2)) := Lib.hid (fun o o2 => ((Below.refl _ _).alloc (Nat.le_refl _) _).alloc (by simp) _)
  have HI : Hid (∀ W, RdP W (w.heap.size + 1) (some ⟨w.heap.size, 0, none⟩) [(1440000, 60)] → w.heap.size + 1 ≤ W.heap.size → Calls Try.prog 13 #[.agg #[.int .i64 120, .slice (some ⟨w.heap.size, 0, none⟩) 1 1], .int .i64 1440090] W (InstPost 120 [(1440000, 60)] 1440090 W)) := Lib.hid (fun W h1 h2 => instants_any _ 1 _ 120 [(1440000, 60)] W h1 h2 (by simp) 1440090)
  have HBg : Hid (∀ W, Calls Try.prog 17 #[.agg #[.int .i64 60, .slice none 0 0], .int .i64 1] W (RetII 1380 0 W)) := Lib.hid (fun W => by
    have := begin_any none 0 0 60 [] W Rd.none_ (Nat.zero_le _) (by simp) 1
    rwa [sane_b, sane_be] at this)
  have HL : Hid (∀ W, RdP W (w.heap.size + 1) (some ⟨w.heap.size, 0, none⟩) [(1440000, 60)] → w.heap.size + 1 ≤ W.heap.size → Calls Try.prog 12 #[.agg #[.int .i64 120, .slice (some ⟨w.heap.size, 0, none⟩) 1 1], .int .i64 1440000] W (RetII 1440060 0 W)) := Lib.hid (fun W h1 h2 => by
    have := local_any _ 1 _ 120 [(1440000, 60)] W h1 h2 (by simp) 1440000
    rwa [sane_l.1, sane_l.2] at this)
  have HR : Hid (∀ t o, RdP ((w.alloc (.cells #[.int .i64 1440000, .int .i64 60] t)).alloc o) (w.heap.size + 1) (some ⟨w.heap.size, 0, none⟩) [(1440000, 60)]) := Lib.hid (fun t o => (rdP_one w 1440000 60 t).below ((Below.refl _ _).alloc (by simp) o))
  go_enter Try.func14, Try.ntmps14
  go_wp2_with fail
  refine (HI.out _ (HR.out _ _) (by simp)).mono ?_
  rintro e w1 ⟨A, c, rfl, hb1, hr1⟩
  rw [sane_i] at hr1 ⊢
  rw [sane_z0]
  obtain ⟨b, off, rfl, hbb, hc⟩ := hr1.all (by simp)
  have c0 : w1.cell? ⟨b, off, none⟩ = some (.int .i64 1439970) := hc 0 (by simp)
  have c1 : w1.cell? ⟨b, off + 1, none⟩ = some (.int .i64 1440030) := hc 1 (by simp)
  have HR1 := Lib.hid ((HR.out _ _).below (hb1.mono (by simp)))
  have HB1 := Lib.hid ((HB0.out _ _).trans (hb1.mono (by simp; omega)))
  have z0 : w1.cell? ⟨w.heap.size + 1, 0, none⟩ = some (.int .i64 120) := (hb1.cell (by simp)).trans ((Blk.new' (by simp)).cell 0)
  have z1 : w1.cell? ⟨w.heap.size + 1, 1, none⟩ = some (.slice (some ⟨w.heap.size, 0, none⟩) 1 1) := (hb1.cell (by simp)).trans ((Blk.new' (by simp)).cell 1)
  have hs1 := hb1.size
  simp at hs1
  clear hb1 hr1 hc HI HR HB0
  go_wp2_with fail
  refine (HBg.out _).mono ?_
  rintro e w2 ⟨rfl, hb2⟩
  have c0' := (bcell hb2 (by omega)).trans c0
  have c1' := (bcell hb2 (by omega)).trans c1
  have z0' := (bcell hb2 (by omega)).trans z0
  have z1' := (bcell hb2 (by omega)).trans z1
  have HR2 := Lib.hid (HR1.out.below (hb2.mono (by omega)))
  have HB2 := Lib.hid (HB1.out.trans (hb2.mono (by omega)))
  have hs2 := hb2.size
  clear c0 c1 z0 z1 hb2 HR1 HB1 HBg
  go_wp2_with fail
  refine (HL.out _ HR2.out (by omega)).mono ?_
  rintro e w3 ⟨rfl, hb3⟩
  have c0 := (bcell hb3 (by omega)).trans c0'
  have c1 := (bcell hb3 (by omega)).trans c1'
  have HB3 := Lib.hid (HB2.out.trans (hb3.mono (by omega)))
  clear c0' c1' z0' z1' hb3 HR2 HB2 HL
  go_wp2
  go_ret
  exact ⟨rfl, HB3.out⟩
end Go.Proofs.Ytmahhpemljopiaa
