/-
  An argument opened: a slice of structs of three numbers. No conditions.
-/
import Derived.Test.YtagkdkkpgcolkaaOpen
import Derived.Test.YtagkdkkpgcolkaaTriple
namespace Go.Proofs.Ytagkdkkpgcolkaa
open Go.ChangeShapes Go.WideShapes Go.ChangeAt Go.RowKit Go.Deep
set_option linter.unusedVariables false
set_option linter.unusedSimpArgs false
section
variable {H : Type} {enc : TypeId × Value → H} {P : Program} {W : World}
theorem open_rdT {t e : TypeId} {f0 f1 f2 : Field} {a : Option Addr} {len cap : Nat} {d : DataW H} {p : List MemPlace} (ht : P.underlying t = some (.slice e)) (he : P.underlying e = some (.struct #[f0, f1, f2]))
    (ce : P.cellsOf e = 3) (o0 : f0.offset = 0) (o1 : f1.offset = 1) (o2 : f2.offset = 2) (c0 : P.cellsOf f0.type = 1) (c1 : P.cellsOf f1.type = 1) (c2 : P.cellsOf f2.type = 1) (u0 : P.underlying f0.type = some (.int .i64)) (u1 : P.underlying f1.type = some (.int .i64)) (u2 : P.underlying f2.type = some (.int .i64))
    (h : DataW.Trod enc P W 0 (fun _ => true) true t (.slice a len cap) d p) : ∃ l : List T3, len = l.length ∧ l.length ≤ 9223372036854775807 ∧ RdT W W.heap.size a l ∧ len ≤ cap ∧ cap ≤ 9223372036854775807 ∧ ∀ i, i < l.length → InR (tA l i) ∧ InR (tB l i) ∧ InR (tC l i) := by
  obtain ⟨fuel, hf⟩ := h
  rcases open_slice ht hf with ⟨hcs, _⟩ | ⟨x, len', cap', m, n, D, Pl, hcs, _, hl, hm, hmm, _, hx⟩
  · simp [Value.cells] at hcs
    obtain ⟨rfl, rfl, rfl⟩ := hcs
    exact ⟨[], rfl, by simp, Rd.none_, by omega, by omega, fun i hi => by simp at hi⟩
  · simp [Value.cells] at hcs
    obtain ⟨rfl, rfl, rfl⟩ := hcs
    have hlm : len ≤ m := by rw [hmm]; simpa using hl
    have each : ∀ i, i < len → ∃ q : Int × Int × Int, W.cell? (x.add (i * 3)) = some (.int .i64 q.1) ∧ W.cell? (x.add (i * 3 + 1)) = some (.int .i64 q.2.1) ∧ W.cell? (x.add (i * 3 + 2)) = some (.int .i64 q.2.2) ∧ InR q.1 ∧ InR q.2.1 ∧ InR q.2.2 := by
      intro i hi
      obtain ⟨cs', h1, h2⟩ := hx i (by omega)
      rw [ce] at h1
      obtain ⟨_, hlen, hcell⟩ := World.cells?_some h1
      obtain ⟨xs, k, hk, hxy, _, hxl, hfl⟩ := DataW.trod_struct he h2
      match xs, hxl, cs', hlen with
      | [y0, y1, y2], _, [v0, v1, v2], _ =>
        have g0 := hfl 0 f0 rfl
        have g1 := hfl 1 f1 rfl
        have g2 := hfl 2 f2 rfl
        simp [o0, o1, o2, c0, c1, c2] at g0 g1 g2
        obtain ⟨q0, ey, _, wy⟩ := DataW.trod_int u0 g0
        obtain ⟨q1, ez, _, wz⟩ := DataW.trod_int u1 g1
        obtain ⟨q2, ew, _, ww⟩ := DataW.trod_int u2 g2
        simp at ey ez ew
        subst ey ez ew
        have e0 := hcell 0 (by omega)
        have e1 := hcell 1 (by omega)
        have e2 := hcell 2 (by omega)
        rw [add_add] at e0 e1 e2
        exact ⟨(q0, q1, q2), by simpa using e0, by simpa using e1, by simpa using e2, inR_of wy, inR_of wz, inR_of ww⟩
    obtain ⟨q, hq⟩ := choose_lt each
    let l : List T3 := (List.range len).map q
    have hll : l.length = len := by simp [l]
    have hfs : ∀ i, i < len → tA l i = (q i).1 ∧ tB l i = (q i).2.1 ∧ tC l i = (q i).2.2 := by
      intro i hi
      simp [l, tA, tB, tC, hi]
    refine ⟨l, hll.symm, by rw [hll]; simp [maxLen] at hm; omega, ?_, hl, by simp [maxLen] at hm; omega, fun i hi => ?_⟩
    · intro hn
      rw [hll] at hn
      obtain ⟨b, off, spot⟩ := x
      have h0 := (hq 0 (by omega)).1
      have hspot : spot = none := by simpa [Addr.add] using World.cell?_spot h0
      subst hspot
      refine ⟨b, off, rfl, ?_, fun i j hi hj => ?_⟩
      · have := World.block_lt_of_cell? W _ h0
        simpa [Addr.add] using this
      · rw [hll] at hi
        obtain ⟨k0, k1, k2, _⟩ := hq i hi
        rw [Go.WideShapes.add_plain] at k0 k1 k2
        rcases (show j = 0 ∨ j = 1 ∨ j = 2 by omega) with rfl | rfl | rfl
        · rw [Nat.add_zero, k0]
          simp [triCell, (hfs i hi).1]
        · rw [Nat.add_assoc, k1]
          simp [triCell, (hfs i hi).2.1]
        · rw [Nat.add_assoc, k2]
          simp [triCell, (hfs i hi).2.2]
    · rw [hll] at hi
      obtain ⟨_, _, _, r0, r1, r2⟩ := hq i hi
      rw [(hfs i hi).1, (hfs i hi).2.1, (hfs i hi).2.2]
      exact ⟨r0, r1, r2⟩
end
end Go.Proofs.Ytagkdkkpgcolkaa
