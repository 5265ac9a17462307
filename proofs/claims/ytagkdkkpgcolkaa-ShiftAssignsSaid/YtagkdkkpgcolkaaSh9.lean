/-
  Chapter 10: slices.Clone at intervals; IsInterval. The memory is that of the given program; no conditions.
-/
import Derived.Test.YtagkdkkpgcolkaaChg
import Derived.Test.YtagkdkkpgcolkaaSpoil
namespace Go.Proofs.Ytagkdkkpgcolkaa
open Go.RowKit
set_option linter.unusedVariables false
set_option linter.unusedSimpArgs false
/-- a row that was made anew -/
def NewRow (t : TypeId) (size n : Nat) (xs : List Value) (w : World) (e : Ending) (w' : World) : Prop :=
  ∃ A' c', e = .returned (.slice A' n c') ∧ w'.ownsRow w.heap.size t size (.slice A' n c') n xs ∧ Below w.heap.size w w'
theorem newRow_of {t : TypeId} {size n : Nat} {xs : List Value} {w w1 w' : World} {A' : Option Addr} {c' : Nat} {v : Value} {e : Ending} (h1 : Hid (w1 = w.alloc (.cells #[] t))) (hv : v = .slice (some ⟨w.heap.size, 0, none⟩) 0 0)
    (ho : Hid (w'.ownsRow w.heap.size t size (.slice A' n c') n xs)) (hg : Hid (w1.grownBy w' v.ownBlock)) (he : e = .returned (.slice A' n c')) : NewRow t size n xs w e w' := by
  have ho := ho.out
  refine ⟨A', c', he, ho, ?_⟩
  have hg := hg.out
  rw [hv, h1.out] at hg
  exact ((Below.refl w.heap.size w).alloc (Nat.le_refl _) _).trans (Only.below hg (by simp) (Nat.le_refl _))
theorem emptyLit (w : World) (t : TypeId) (size : Nat) : (w.alloc (.cells #[] t)).ownsRow w.heap.size t size (.slice (some ⟨w.heap.size, 0, none⟩) 0 0) 0 [] := by
  simpa using World.ownsRow_lit (base := w.heap.size) (e := t) (size := size) w #[] 0 (Nat.le_refl _) (by simp [maxLen]) (by simp)
theorem Src.alloc {w : World} {size : Nat} {A : Option Addr} {m : Nat} {news : List Value} (h : Src w size A m news) (o : Obj) : Src (w.alloc o) size A m news := by
  refine ⟨h.1, fun h0 => ?_⟩
  obtain ⟨ad, e, hc⟩ := h.2 h0
  exact ⟨ad, e, fun j u hu => Lib.cell?_alloc_some o (hc j u hu)⟩
set_option maxHeartbeats 400000 in
theorem cloneI_some (ad : Addr) (c n : Nat) (xs : List Value) (w : World) (hr : Src w 2 (some ad) n xs) (h1 : ∀ u ∈ xs, u.oneCell' = true) (hl : n ≤ 100000) :
    Calls Try.prog 38 #[.slice (some ad) n c] w (NewRow 38 2 n xs w) := by
  obtain ⟨i0, hi, hz0, hz1, hz2⟩ := info_parts infoIv
  have HS := Lib.hid (hr.alloc (.cells #[] 38))
  have HO := Lib.hid (emptyLit w 38 2)
  have H1 := Lib.hid h1
  have hnil := fun (w : World) (n c : Nat) => Lib.run_eql_slice_nil (P := Try.prog) w 56 38 (some ad) n c 0 0 undIv
  clear hr h1
  go_enter Try.func38, Try.ntmps38
  go_wp2_with (at_builtin; refine wpList_app rfl (.tmp 5) (.tmp 6) 56 rfl w.heap.size 38 i0 (.agg #[.int .i64 0, .int .i64 0]) 2 16 undIv hi hz0 hz1 hz2 rfl (by decide) _ 0 [] rfl HO.out _ _ _ xs rfl HS.out H1.out ?_ ?_ ?_ ?_)
  · unfold maxLen; omega
  · omega
  · simp
  intro A' c' w' h1 h2 h3
  go_wp2
  go_ret
  exact newRow_of (Lib.hid rfl) rfl h1 h2 (by simp)
set_option maxHeartbeats 400000 in
theorem cloneI_none (c : Nat) (w : World) :
    Calls Try.prog 38 #[.slice none 0 c] w (NewRow 38 2 0 [] w) := by
  have hnil := fun (w : World) (n c : Nat) => Lib.run_eql_slice_nil (P := Try.prog) w 56 38 none n c 0 0 undIv
  go_enter Try.func38, Try.ntmps38
  go_wp2
  go_ret
  exact ⟨none, 0, rfl, World.ownsRow_nil _ _ _ _, Below.refl _ _⟩
theorem cloneI_at {A : Option Addr} {c n : Nat} {s : List (Int × Int)} {w : World} (hn : s.length = n) (hr : RdP w w.heap.size A s) (hl : n ≤ 100000) :
    Calls Try.prog 38 #[.slice A n c] w (NewRow 38 2 n (flat2 s) w) := by
  subst hn
  cases A with
  | some ad => exact cloneI_some ad c _ _ w (src_rdP hr) (flat2_one s) hl
  | none =>
    have h0 : s = [] := by
      cases s with
      | nil => rfl
      | cons x t => obtain ⟨g, off, h, _⟩ := hr.all (by simp); cases h
    subst h0
    exact cloneI_none c w
end Go.Proofs.Ytagkdkkpgcolkaa
