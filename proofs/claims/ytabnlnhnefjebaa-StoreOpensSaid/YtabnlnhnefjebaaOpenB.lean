/-
  Arguments opened: a slice of bytes, a byte. No conditions.
-/
import Derived.Test.YtabnlnhnefjebaaOpen
import Derived.Test.YtabnlnhnefjebaaStP
import Derived.Test.YtabnlnhnefjebaaStK
namespace Go.Proofs.Ytabnlnhnefjebaa
open Go.ChangeShapes Go.WideShapes Go.ChangeAt Go.RowKit Go.Deep
set_option linter.unusedVariables false
set_option linter.unusedSimpArgs false
def InC (a : Int) : Prop := 0 ≤ a ∧ a ≤ 255
theorem inC_of {a : Int} (h : (Lit.int .u8 a).wf = true) : InC a := by
  have : 0 ≤ a ∧ a ≤ 255 := by simpa [Lit.wf, IntKind.min, IntKind.max, IntKind.signed, IntKind.bits] using h
  exact this
/-- what is known of a slice of bytes that came in -/
structure ArgB (A : Option Addr) (cap : Nat) (l : List Int) : Prop where
  ok : byteOk l
  lc : l.length ≤ cap
  cm : cap ≤ 9223372036854775807
  nil : A = none → l = [] ∧ cap = 0
theorem open_rdB {H : Type} {enc : TypeId × Value → H} {P : Program} {W : World} {t e : TypeId} {a : Option Addr} {len cap : Nat} {d : DataW H} {p : List MemPlace} (ht : P.underlying t = some (.slice e)) (he : P.underlying e = some (.int .u8)) (ce : P.cellsOf e = 1)
    (h : DataW.Trod enc P W 0 (fun _ => true) true t (.slice a len cap) d p) : ∃ l : List Int, len = l.length ∧ l.length ≤ 9223372036854775807 ∧ RdB W W.heap.size a l ∧ ArgB a cap l := by
  obtain ⟨fuel, hf⟩ := h
  rcases open_ints ht he ce hf with ⟨hcs, _⟩ | ⟨x, l, c, zs, hcs, _, hl, hm, hz, _, hcell, hwz⟩
  · simp [Value.cells] at hcs
    obtain ⟨rfl, rfl, rfl⟩ := hcs
    exact ⟨[], rfl, by simp, Rd.none_, ⟨fun x hx => by simp at hx, by simp, by simp, fun _ => ⟨rfl, rfl⟩⟩⟩
  · simp [Value.cells] at hcs
    obtain ⟨rfl, rfl, rfl⟩ := hcs
    have hz' : zs.length = cap := by simpa using hz
    refine ⟨zs.take len, by simp; omega, by simp [maxLen] at hm ⊢; omega, ?_, ⟨fun v hv => ?_, by simp; omega, by simp [maxLen] at hm; omega, fun e => by cases e⟩⟩
    · intro hn
      have hn' : 0 < len := by simp at hn; omega
      obtain ⟨b, off, rfl, hc⟩ := ints_at hcell (by omega)
      have h0 := hc 0 (by omega)
      refine ⟨b, off, rfl, World.block_lt_of_cell? W _ h0, fun i j hi hj => ?_⟩
      have hj0 : j = 0 := by omega
      subst hj0
      have hi' : i < len := by simp at hi; omega
      have := hc i (by omega)
      simp only [Nat.mul_one, Nat.add_zero]
      rw [this]
      simp [at1, List.getElem?_take, hi']
    · exact inC_of (hwz _ (List.mem_of_mem_take hv))
end Go.Proofs.Ytabnlnhnefjebaa
