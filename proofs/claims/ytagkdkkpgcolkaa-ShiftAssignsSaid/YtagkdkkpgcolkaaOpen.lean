/-
  Arguments opened: a slice of numbers, a slice of pairs of numbers, a number. No conditions.
-/
import Derived.Test.YtagkdkkpgcolkaaRows
import Derived.Test.YtagkdkkpgcolkaaKit
import Derived.ProofKit
import Derived.OpenShut
import Derived.ShutString
import Derived.ChangeOld
import Derived.Below
import Derived.Deep.SlicePairs
namespace Go.Proofs.Ytagkdkkpgcolkaa
open Go.ChangeShapes Go.WideShapes Go.ChangeAt Go.RowKit Go.Deep
set_option linter.unusedVariables false
set_option linter.unusedSimpArgs false

theorem ownK : ownKnob Try.prog.godebug = none := by kernel_rfl
theorem laidOut : laidOutB Try.prog = true := by kernel_rfl

def InR (a : Int) : Prop := -9223372036854775808 ≤ a ∧ a ≤ 9223372036854775807
theorem inR_of {a : Int} (h : (Lit.int .i64 a).wf = true) : InR a := by
  have : -9223372036854775808 ≤ a ∧ a ≤ 9223372036854775807 := by simpa [Lit.wf, IntKind.min, IntKind.max, IntKind.signed, IntKind.bits] using h
  exact this

section
variable {H : Type} {enc : TypeId × Value → H} {P : Program} {W : World}
theorem open_rdI {t e : TypeId} {a : Option Addr} {len cap : Nat} {d : DataW H} {p : List MemPlace} (ht : P.underlying t = some (.slice e)) (he : P.underlying e = some (.int .i64)) (ce : P.cellsOf e = 1)
    (h : DataW.Trod enc P W 0 (fun _ => true) true t (.slice a len cap) d p) : ∃ l : List Int, len = l.length ∧ l.length ≤ 9223372036854775807 ∧ RdI W W.heap.size a l ∧ ∀ i, i < l.length → InR (at1 l i) := by
  obtain ⟨fuel, hf⟩ := h
  rcases open_ints ht he ce hf with ⟨hcs, _⟩ | ⟨x, l, c, zs, hcs, _, hl, hm, hz, _, hcell, hwz⟩
  · simp [Value.cells] at hcs
    obtain ⟨rfl, rfl, rfl⟩ := hcs
    exact ⟨[], rfl, by simp, Rd.none_, fun i hi => by simp at hi⟩
  · simp [Value.cells] at hcs
    obtain ⟨rfl, rfl, rfl⟩ := hcs
    have hz' : zs.length = cap := by simpa using hz
    refine ⟨zs.take len, by simp; omega, by simp [maxLen] at hm ⊢; omega, ?_, fun i hi => ?_⟩
    · intro hn
      have hn' : 0 < len := by simp at hn; omega
      obtain ⟨b, off, rfl, hc⟩ := ints_at hcell (by omega)
      have h0 := hc 0 (by omega)
      refine ⟨b, off, rfl, World.block_lt_of_cell? W _ h0, fun i j hi hj => ?_⟩
      have hj0 : j = 0 := by omega
      subst hj0
      have hi' : i < len := by simp at hi; omega
      have := hc i (by omega)
      simp only [Nat.mul_one, Nat.add_zero]
      rw [this]
      simp [at1, List.getElem?_take, hi']
    · have hi' : i < len := by simp at hi; omega
      refine inR_of (hwz _ ?_)
      have : at1 (zs.take len) i = zs[i]'(by omega) := by simp [at1, List.getElem?_take, hi', List.getElem?_eq_getElem (show i < zs.length by omega)]
      rw [this]
      exact List.getElem_mem _
theorem open_rdP {t e : TypeId} {f0 f1 : Field} {a : Option Addr} {len cap : Nat} {d : DataW H} {p : List MemPlace} (ht : P.underlying t = some (.slice e)) (he : P.underlying e = some (.struct #[f0, f1]))
    (ce : P.cellsOf e = 2) (o0 : f0.offset = 0) (o1 : f1.offset = 1) (c0 : P.cellsOf f0.type = 1) (c1 : P.cellsOf f1.type = 1) (u0 : P.underlying f0.type = some (.int .i64)) (u1 : P.underlying f1.type = some (.int .i64))
    (h : DataW.Trod enc P W 0 (fun _ => true) true t (.slice a len cap) d p) : ∃ l : List (Int × Int), len = l.length ∧ l.length ≤ 9223372036854775807 ∧ RdP W W.heap.size a l ∧ ∀ i, i < l.length → InR (fst2 l i) ∧ InR (snd2 l i) := by
  obtain ⟨fuel, hf⟩ := h
  rcases open_slice_pairs ht he ce o0 o1 c0 c1 hf with ⟨hcs, _⟩ | ⟨x, len', cap', m, n, V0, V1, D0, D1, P0, P1, hcs, _, hl, hm, hmm, _, hall⟩
  · simp [Value.cells] at hcs
    obtain ⟨rfl, rfl, rfl⟩ := hcs
    exact ⟨[], rfl, by simp, Rd.none_, fun i hi => by simp at hi⟩
  · simp [Value.cells] at hcs
    obtain ⟨rfl, rfl, rfl⟩ := hcs
    have hlm : len ≤ m := by rw [hmm]; simpa using hl
    have each : ∀ i, i < len → ∃ y z : Int, V0 i = .int .i64 y ∧ V1 i = .int .i64 z ∧ InR y ∧ InR z := by
      intro i hi
      obtain ⟨_, _, g0, g1⟩ := hall i (by omega)
      obtain ⟨y, ey, _, wy⟩ := DataW.trod_int u0 g0
      obtain ⟨z, ez, _, wz⟩ := DataW.trod_int u1 g1
      simp at ey ez
      exact ⟨y, z, ey, ez, inR_of wy, inR_of wz⟩
    let l : List (Int × Int) := (List.range len).map fun i => (intOf (V0 i), intOf (V1 i))
    have hll : l.length = len := by simp [l]
    have hfs : ∀ i, i < len → fst2 l i = intOf (V0 i) ∧ snd2 l i = intOf (V1 i) := by
      intro i hi
      simp [l, fst2, snd2, hi]
    refine ⟨l, hll.symm, by rw [hll]; simp [maxLen] at hm; omega, ?_, fun i hi => ?_⟩
    · intro hn
      rw [hll] at hn
      obtain ⟨b, off, spot⟩ := x
      have h0 := (hall 0 (by omega)).1
      have hspot : spot = none := by simpa [Addr.add] using World.cell?_spot h0
      subst hspot
      refine ⟨b, off, rfl, ?_, fun i j hi hj => ?_⟩
      · have := World.block_lt_of_cell? W _ h0
        simpa [Addr.add] using this
      · rw [hll] at hi
        obtain ⟨y, z, ey, ez, _, _⟩ := each i hi
        obtain ⟨c0, c1, _, _⟩ := hall i (by omega)
        rw [Go.WideShapes.add_plain] at c0 c1
        rcases (show j = 0 ∨ j = 1 by omega) with rfl | rfl
        · rw [Nat.add_zero, c0, ey]
          simp [pairCell, (hfs i hi).1, ey, intOf]
        · rw [Nat.add_assoc, c1, ez]
          simp [pairCell, (hfs i hi).2, ez, intOf]
    · rw [hll] at hi
      obtain ⟨y, z, ey, ez, r1, r2⟩ := each i hi
      rw [(hfs i hi).1, (hfs i hi).2, ey, ez]
      exact ⟨r1, r2⟩
end
end Go.Proofs.Ytagkdkkpgcolkaa
