/-
  Arguments opened: a struct of a number, a slice of numbers and a struct of three numbers, by value; a slice of such structs. No conditions.
-/
import Derived.Test.YtolkdidcmingkaaDoorOpen
import Derived.Test.YtolkdidcmingkaaDoorRun7
import Derived.Lib.SmallJoins
import Derived.Deep.Strs
namespace Go.Proofs.YtolkdidcmingkaaDoor
open Go.ChangeShapes Go.WideShapes Go.ChangeAt Go.RowKit Go.Deep Go.Joins
set_option linter.unusedVariables false
set_option linter.unusedSimpArgs false
theorem array5 {α : Type} {cs : Array α} (h : cs.size = 5) : ∃ c0 c1 c2 c3 c4, cs = #[c0, c1, c2, c3, c4] := by
  obtain ⟨l⟩ := cs
  match l, h with
  | [c0, c1, c2, c3, c4], _ => exact ⟨c0, c1, c2, c3, c4, rfl⟩
theorem list5 {α : Type} {cs : List α} (h : cs.length = 5) : ∃ c0 c1 c2 c3 c4, cs = [c0, c1, c2, c3, c4] := by
  match cs, h with
  | [c0, c1, c2, c3, c4], _ => exact ⟨c0, c1, c2, c3, c4, rfl⟩
section
variable {H : Type} {enc : TypeId × Value → H} {P : Program} {W : World} {t te : TypeId} {f0 f1 f2 g0 g1 g2 : Field}
/-- the layout of such a struct -/
structure Lay (P : Program) (t te : TypeId) (f0 f1 f2 g0 g1 g2 : Field) : Prop where
  hs : P.underlying t = some (.struct #[f0, f1, f2])
  hC : P.cellsOf t = 5
  o0 : f0.offset = 0
  o1 : f1.offset = 1
  o2 : f2.offset = 2
  k0 : P.cellsOf f0.type = 1
  k1 : P.cellsOf f1.type = 1
  k2 : P.cellsOf f2.type = 3
  u0 : P.underlying f0.type = some (.int .i64)
  u1 : P.underlying f1.type = some (.slice te)
  ue : P.underlying te = some (.int .i64)
  ce : P.cellsOf te = 1
  u2 : P.underlying f2.type = some (.struct #[g0, g1, g2])
  p0 : g0.offset = 0
  p1 : g1.offset = 1
  p2 : g2.offset = 2
  q0 : P.cellsOf g0.type = 1
  q1 : P.cellsOf g1.type = 1
  q2 : P.cellsOf g2.type = 1
  v0 : P.underlying g0.type = some (.int .i64)
  v1 : P.underlying g1.type = some (.int .i64)
  v2 : P.underlying g2.type = some (.int .i64)
theorem open_run_cells (Y : Lay P t te f0 f1 f2 g0 g1 g2) {fuel : Nat} {cs : List Value} {x : DataW H × List MemPlace} (h : DataW.trod enc P W 0 (fun _ => true) true fuel t cs = some x) :
    ∃ (s : Int) (A : Option Addr) (c : Nat) (E : List Int) (c0 c1 c2 : Int), cs = [.int .i64 s, .slice A E.length c, .int .i64 c0, .int .i64 c1, .int .i64 c2] ∧ E.length ≤ 9223372036854775807 ∧ RdI W W.heap.size A E := by
  obtain ⟨y0, y1, y2, n, hx, hlen, h0, h1, h2⟩ := trod_struct3 Y.hs h
  obtain ⟨a0, a1, a2, a3, a4, rfl⟩ := list5 (hlen.trans Y.hC)
  simp [Y.o0, Y.o1, Y.o2, Y.k0, Y.k1, Y.k2] at h0 h1 h2
  obtain ⟨s, hs, _, _⟩ := DataW.trod_int Y.u0 h0
  simp at hs
  subst hs
  obtain ⟨A, len, cap, hsl⟩ := slice_form Y.u1 h1
  simp at hsl
  subst hsl
  obtain ⟨E, rfl, hE, hr, _⟩ := open_rdI (d := y1.1) (p := y1.2) Y.u1 Y.ue Y.ce ⟨n, by simpa [Value.cells] using h1⟩
  obtain ⟨z0, z1, z2, m, hz, _, j0, j1, j2⟩ := trod_struct3 Y.u2 h2
  simp [Y.p0, Y.p1, Y.p2, Y.q0, Y.q1, Y.q2] at j0 j1 j2
  obtain ⟨c0, e0, _, _⟩ := DataW.trod_int Y.v0 j0
  obtain ⟨c1, e1, _, _⟩ := DataW.trod_int Y.v1 j1
  obtain ⟨c2, e2, _, _⟩ := DataW.trod_int Y.v2 j2
  simp at e0 e1 e2
  subst e0 e1 e2
  exact ⟨s, A, cap, E, c0, c1, c2, rfl, hE, hr⟩
theorem open_run {r : Reach} {b0 : Nat} {v : Value} {d : DataW H} {p : List MemPlace} (Y : Lay P t te f0 f1 f2 g0 g1 g2) (hv : Value.okWide P W r b0 t v) (h : DataW.Trod enc P W 0 (fun _ => true) true t v d p) :
    ∃ (s : Int) (A : Option Addr) (c : Nat) (E : List Int) (c0 c1 c2 : Int), v = .agg #[.int .i64 s, .slice A E.length c, .int .i64 c0, .int .i64 c1, .int .i64 c2] ∧ E.length ≤ 9223372036854775807 ∧ RdI W W.heap.size A E := by
  obtain ⟨cs, rfl, hsz⟩ := okWide_struct Y.hs hv
  obtain ⟨fuel, hf⟩ := h
  obtain ⟨s, A, c, E, c0, c1, c2, hcs, hE, hr⟩ := open_run_cells Y hf
  obtain ⟨a0, a1, a2, a3, a4, rfl⟩ := array5 (hsz.trans Y.hC)
  simp [Value.cells] at hcs
  obtain ⟨rfl, rfl, rfl, rfl, rfl⟩ := hcs
  exact ⟨s, A, c, E, c0, c1, c2, rfl, hE, hr⟩
theorem open_cmds {ts : TypeId} {a : Option Addr} {len cap : Nat} {d : DataW H} {p : List MemPlace} (Y : Lay P t te f0 f1 f2 g0 g1 g2) (ht : P.underlying ts = some (.slice t)) (h : DataW.Trod enc P W 0 (fun _ => true) true ts (.slice a len cap) d p) :
    ∃ L : List CV, len = L.length ∧ L.length ≤ 9223372036854775807 ∧ Rd W W.heap.size 5 a L.length (fun i j => (cvV (cAt L i)).getD j (.int .i64 0)) ∧ ∀ x ∈ L, RdI W W.heap.size x.A x.F ∧ x.F.length ≤ 9223372036854775807 := by
  obtain ⟨fuel, hf⟩ := h
  rcases open_slice ht hf with ⟨hcs, _⟩ | ⟨x, len', cap', m, n, D, Pl, hcs, hb, hl, hm, hmm, _, hx⟩
  · simp [Value.cells] at hcs
    obtain ⟨rfl, rfl, rfl⟩ := hcs
    exact ⟨[], rfl, by simp, Rd.none_, fun x hx => by simp at hx⟩
  · simp [Value.cells] at hcs
    obtain ⟨rfl, rfl, rfl⟩ := hcs
    have hlm : len ≤ m := by rw [hmm]; simpa using hl
    have each : ∀ i, i < len → ∃ y : CV, (∀ j, j < 5 → W.cell? (x.add (i * 5 + j)) = some ((cvV y).getD j (.int .i64 0))) ∧ RdI W W.heap.size y.A y.F ∧ y.F.length ≤ 9223372036854775807 := by
      intro i hi
      obtain ⟨cs', h1, h2⟩ := hx i (by omega)
      obtain ⟨s, A, c, E, c0, c1, c2, rfl, hE, hr⟩ := open_run_cells Y h2
      rw [Y.hC] at h1
      obtain ⟨_, hlen, hcell⟩ := World.cells?_some h1
      refine ⟨⟨s, A, c, E, (c0, c1, c2)⟩, fun j hj => ?_, hr, hE⟩
      have e := hcell j hj
      rw [add_add] at e
      rcases (show j = 0 ∨ j = 1 ∨ j = 2 ∨ j = 3 ∨ j = 4 by omega) with rfl | rfl | rfl | rfl | rfl <;> simpa using e
    have hinh : Inhabited CV := ⟨cv0⟩
    obtain ⟨qf, hq⟩ := choose_lt each
    have hll : ((List.range len).map qf).length = len := by simp
    have hat : ∀ i, i < len → cAt ((List.range len).map qf) i = qf i := fun i hi => by simp [cAt, hi]
    refine ⟨(List.range len).map qf, hll.symm, by rw [hll]; simp [maxLen] at hm; omega, ?_, fun y hy => ?_⟩
    · intro hn
      rw [hll] at hn
      obtain ⟨b, off, spot⟩ := x
      have h0 := (hq 0 (by omega)).1 0 (by omega)
      have hspot : spot = none := by simpa [Addr.add] using World.cell?_spot h0
      subst hspot
      refine ⟨b, off, rfl, ?_, fun i j hi hj => ?_⟩
      · have := World.block_lt_of_cell? W _ h0
        simpa [Addr.add] using this
      · rw [hll] at hi
        have e := (hq i hi).1 j hj
        rw [Go.WideShapes.add_plain] at e
        show W.cell? _ = some ((cvV (cAt ((List.range len).map qf) i)).getD j (.int .i64 0))
        rw [hat i hi, Nat.add_assoc]
        exact e
    · obtain ⟨i, hi, rfl⟩ := List.mem_map.1 hy
      have hi' := List.mem_range.1 hi
      exact (hq i hi').2
end
end Go.Proofs.YtolkdidcmingkaaDoor
