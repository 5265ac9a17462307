/-
  Chapter 10: spoil. The memory is that of the given program; no conditions.
-/
import Derived.Test.YtagkdkkpgcolkaaSh17
namespace Go.Proofs.Ytagkdkkpgcolkaa
open Go.RowKit
set_option linter.unusedVariables false
set_option linter.unusedSimpArgs false
def SpPost (w0 : World) (g : Nat) (M : Int) (e : Ending) (w' : World) : Prop := ∃ A c l, e = .returned (.slice A l.length c) ∧ l.length ≤ 12 ∧ PR w0 g M A c l w'
theorem PR.set {w W : World} {g gk c : Nat} {M : Int} {l : List T3} (h : PR w g M (some ⟨gk, 0, none⟩) c l W) (hgl : g < w.heap.size) {i : Nat} (hi : i < l.length) (x y z : Int) :
    PR w g M (some ⟨gk, 0, none⟩) c (l.set i (x, y, z)) (((W.setCell ⟨gk, i * 3, none⟩ (.int .i64 x)).setCell ⟨gk, i * 3 + 1, none⟩ (.int .i64 y)).setCell ⟨gk, i * 3 + 2, none⟩ (.int .i64 z)) := by
  have hk := (World.ownsRow.lt h.own gk rfl).1
  have o1 := (World.ownsRow.stored h.own (i * 3) (.int .i64 x)).1
  have o2 := (World.ownsRow.stored o1 (i * 3 + 1) (.int .i64 y)).1
  have o3 := (World.ownsRow.stored o2 (i * 3 + 2) (.int .i64 z)).1
  have hO : Only gk W (((W.setCell ⟨gk, i * 3, none⟩ (.int .i64 x)).setCell ⟨gk, i * 3 + 1, none⟩ (.int .i64 y)).setCell ⟨gk, i * 3 + 2, none⟩ (.int .i64 z)) :=
    (((Only.refl gk W).setCell (p := ⟨gk, i * 3, none⟩) (.inl rfl) _).setCell (p := ⟨gk, i * 3 + 1, none⟩) (.inl rfl) _).setCell (p := ⟨gk, i * 3 + 2, none⟩) (.inl rfl) _
  refine ⟨h.deck.only hO (by omega), ?_, ?_⟩
  · exact ((h.only.setCell (p := ⟨gk, i * 3, none⟩) (.inr hk) _).setCell (p := ⟨gk, i * 3 + 1, none⟩) (.inr hk) _).setCell (p := ⟨gk, i * 3 + 2, none⟩) (.inr hk) _
  · rw [List.length_set, ← flat3_set l (x, y, z) i hi]
    exact o3
set_option maxHeartbeats 3200000 in
theorem spoil_any {w0 w : World} {g c : Nat} {N : Int} {A : Option Addr} {l : List T3} (hgl : g < w0.heap.size) (h : PR w0 g N A c l w) (hl : l.length ≤ 12) (hN : N ≤ 800000) :
    Calls Try.prog 10 #[.pointer (some ⟨g, 0, none⟩), .slice A l.length c] w (SpPost w0 g (N + 5)) := by
  have HP := Lib.hid h
  clear h
  by_cases h0 : l.length = 0
  · go_enter Try.func10, Try.ntmps10
    go_wp2
    exact bodyPost_ret (v := .slice A l.length c) (by simp [results, Try.results10, go_sem]) rfl ⟨A, c, l, rfl, hl, HP.out.more (by omega)⟩
  · have hz : decide ((l.length : Int) = 0) = false := by rw [decide_eq_false_iff_not]; omega
    have hzb : ((l.length : Int) == 0) = false := by rw [beq_eq_false_iff_ne]; omega
    go_enter Try.func10, Try.ntmps10
    go_wp2_with fail
    refine (next_any g N 5 _ HP.out.deck (by omega) (by omega) (by omega)).mono ?_
    rintro e w2 ⟨v, rfl, hv, ho, hD⟩
    have HP2 := Lib.hid (PR.draw (hgl := hgl) HP.out ho hD)
    clear ho hD HP
    rcases bool_cases (v < 4) with t0 | t0
    · go_wp2
      exact bodyPost_ret (v := .slice A l.length c) (by simp [results, Try.results10, go_sem]) rfl ⟨A, c, l, rfl, hl, HP2.out.more (by omega)⟩
    · go_wp2_with fail
      refine (next_any g (N + 1) l.length _ HP2.out.deck (by omega) (by omega) (by omega)).mono ?_
      rintro e w3 ⟨iv, rfl, hiv, ho, hD⟩
      have HP3 := Lib.hid (PR.draw (hgl := hgl) HP2.out ho hD)
      clear ho hD HP2
      obtain ⟨i, rfl⟩ : ∃ i : Nat, iv = i := ⟨iv.toNat, by omega⟩
      have hi : i < l.length := by omega
      go_wp2_with fail
      refine (pick_new g (N + 1 + 1) [20454, -1, 84006, 84005] _ 3 4 HP3.out.deck (by omega) (by decide) (by decide)).mono ?_
      rintro e w4 ⟨x, rfl, hu, ho, hD⟩
      have HP4 := Lib.hid (PR.draw (hgl := hgl) HP3.out ho hD)
      clear ho hD hu HP3
      go_wp2_with fail
      refine (pick_new g (N + 1 + 1 + 1) [480, 1440, -1, 1439] _ 3 4 HP4.out.deck (by omega) (by decide) (by decide)).mono ?_
      rintro e w5 ⟨y, rfl, hu, ho, hD⟩
      have HP5 := Lib.hid (PR.draw (hgl := hgl) HP4.out ho hD)
      clear ho hD hu HP4
      go_wp2_with fail
      refine (pick_new g (N + 1 + 1 + 1 + 1) [480, 0, 1441, 1440] _ 3 4 HP5.out.deck (by omega) (by decide) (by decide)).mono ?_
      rintro e w6 ⟨z, rfl, hu, ho, hD⟩
      have HP6 := Lib.hid (PR.draw (hgl := hgl) HP5.out ho hD)
      clear ho hD hu HP5
      obtain ⟨gk, rfl⟩ : ∃ g, A = some ⟨g, 0, none⟩ := by
        obtain ⟨g, cap, hv, _, _⟩ := HP6.out.own.form (by omega)
        injection hv with hA _ _
        exact ⟨g, hA⟩
      have hc := HP6.out.own.cells (g := gk) rfl
      have hg := flat3_get l i hi
      have c0 : w6.cell? ⟨gk, i * 3, none⟩ = some (.int .i64 (tA l i)) := by have := hc _ _ hg.1; simpa [Go.WideShapes.add_plain] using this
      have c1 : w6.cell? ⟨gk, i * 3 + 1, none⟩ = some (.int .i64 (tB l i)) := by have := hc _ _ hg.2.1; simpa [Go.WideShapes.add_plain] using this
      have c2 : w6.cell? ⟨gk, i * 3 + 2, none⟩ = some (.int .i64 (tC l i)) := by have := hc _ _ hg.2.2; simpa [Go.WideShapes.add_plain] using this
      have f0 := World.ownsRow.frozenAt HP6.out.own (i * 3)
      have f1 := World.ownsRow.frozenAt HP6.out.own (i * 3 + 1)
      have f2 := World.ownsRow.frozenAt HP6.out.own (i * 3 + 2)
      have HP7 := Lib.hid (PR.set HP6.out hgl hi x y z)
      clear hc hg hv hiv hz hzb
      go_wp2
      exact bodyPost_ret (v := .slice (some ⟨gk, 0, none⟩) l.length c) (by simp [results, Try.results10, go_sem]) rfl ⟨_, c, l.set i (x, y, z), by simp, by simpa using hl, HP7.out.more (by omega)⟩
end Go.Proofs.Ytagkdkkpgcolkaa
