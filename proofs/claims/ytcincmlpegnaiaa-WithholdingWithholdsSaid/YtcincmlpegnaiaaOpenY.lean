/-
  An argument opened: a year, by value (three numbers, a slice of numbers, a slice of elements). No conditions.
-/
import Derived.Test.YtcincmlpegnaiaaOpen
import Derived.Test.YtcincmlpegnaiaaWh27
import Derived.Lib.SmallJoins
namespace Go.Proofs.Ytcincmlpegnaiaa
open Go.ChangeShapes Go.WideShapes Go.ChangeAt Go.RowKit Go.Deep Go.Joins
set_option linter.unusedVariables false
set_option linter.unusedSimpArgs false
theorem array5 {α : Type} {cs : Array α} (h : cs.size = 5) : ∃ c0 c1 c2 c3 c4, cs = #[c0, c1, c2, c3, c4] := by
  obtain ⟨l⟩ := cs
  match l, h with
  | [c0, c1, c2, c3, c4], _ => exact ⟨c0, c1, c2, c3, c4, rfl⟩
section
variable {H : Type} {enc : TypeId × Value → H} {P : Program} {W : World} {t ti te : TypeId} {f0 f1 f2 f3 f4 e0 e1 : Field}
theorem trod_struct5 {fuel : Nat} {cs : List Value} {x : DataW H × List MemPlace} (ht : P.underlying t = some (.struct #[f0, f1, f2, f3, f4])) (h : DataW.trod enc P W 0 (fun _ => true) true fuel t cs = some x) :
    ∃ y0 y1 y2 y3 y4 n, DataW.trod enc P W 0 (fun _ => true) true n f0.type ((cs.drop f0.offset).take (P.cellsOf f0.type)) = some y0 ∧ DataW.trod enc P W 0 (fun _ => true) true n f1.type ((cs.drop f1.offset).take (P.cellsOf f1.type)) = some y1 ∧ DataW.trod enc P W 0 (fun _ => true) true n f2.type ((cs.drop f2.offset).take (P.cellsOf f2.type)) = some y2 ∧
      DataW.trod enc P W 0 (fun _ => true) true n f3.type ((cs.drop f3.offset).take (P.cellsOf f3.type)) = some y3 ∧ DataW.trod enc P W 0 (fun _ => true) true n f4.type ((cs.drop f4.offset).take (P.cellsOf f4.type)) = some y4 := by
  obtain ⟨xs, n, _, rfl, hl, hlen, hf⟩ := DataW.trod_struct ht h
  match xs, hlen with
  | [y0, y1, y2, y3, y4], _ => exact ⟨y0, y1, y2, y3, y4, n, by simpa using hf 0 f0 rfl, by simpa using hf 1 f1 rfl, by simpa using hf 2 f2 rfl, by simpa using hf 3 f3 rfl, by simpa using hf 4 f4 rfl⟩
/-- the layout of a year -/
structure LayY (P : Program) (t ti te : TypeId) (f0 f1 f2 f3 f4 e0 e1 : Field) : Prop where
  hs : P.underlying t = some (.struct #[f0, f1, f2, f3, f4])
  hC : P.cellsOf t = 5
  o0 : f0.offset = 0
  o1 : f1.offset = 1
  o2 : f2.offset = 2
  o3 : f3.offset = 3
  o4 : f4.offset = 4
  k0 : P.cellsOf f0.type = 1
  k1 : P.cellsOf f1.type = 1
  k2 : P.cellsOf f2.type = 1
  k3 : P.cellsOf f3.type = 1
  k4 : P.cellsOf f4.type = 1
  u0 : P.underlying f0.type = some (.int .i64)
  u1 : P.underlying f1.type = some (.int .i64)
  u2 : P.underlying f2.type = some (.int .i64)
  u3 : P.underlying f3.type = some (.slice ti)
  ui : P.underlying ti = some (.int .i64)
  ci : P.cellsOf ti = 1
  u4 : P.underlying f4.type = some (.slice te)
  ue : P.underlying te = some (.struct #[e0, e1])
  ce : P.cellsOf te = 2
  p0 : e0.offset = 0
  p1 : e1.offset = 1
  q0 : P.cellsOf e0.type = 1
  q1 : P.cellsOf e1.type = 1
  us : P.underlying e0.type = some .string
theorem open_rdE {ts : TypeId} {a : Option Addr} {len cap fuel : Nat} {x : DataW H × List MemPlace} (ht : P.underlying ts = some (.slice te)) (ue : P.underlying te = some (.struct #[e0, e1])) (ce : P.cellsOf te = 2) (p0 : e0.offset = 0) (p1 : e1.offset = 1) (q0 : P.cellsOf e0.type = 1) (q1 : P.cellsOf e1.type = 1) (us : P.underlying e0.type = some .string)
    (h : DataW.trod enc P W 0 (fun _ => true) true fuel ts [.slice a len cap] = some x) : RdE W W.heap.size a len ∧ len ≤ 9223372036854775807 := by
  rcases open_slice_pairs ht ue ce p0 p1 q0 q1 h with ⟨hcs, _⟩ | ⟨x, len', cap', m, n, V0, V1, D0, D1, P0, P1, hcs, _, hl, hm, hmm, _, hall⟩
  · simp at hcs
    obtain ⟨rfl, rfl, rfl⟩ := hcs
    exact ⟨fun h => by omega, by omega⟩
  · simp at hcs
    obtain ⟨rfl, rfl, rfl⟩ := hcs
    have hlm : len ≤ m := by rw [hmm]; simpa using hl
    refine ⟨fun hn => ?_, by simp [maxLen] at hm; omega⟩
    obtain ⟨b, off, spot⟩ := x
    have h0 := (hall 0 (by omega)).1
    have hspot : spot = none := by simpa [Addr.add] using World.cell?_spot h0
    subst hspot
    refine ⟨b, off, rfl, ?_, fun i hi => ?_⟩
    · have := World.block_lt_of_cell? W _ h0
      simpa [Addr.add] using this
    · obtain ⟨c0, _, g0, _⟩ := hall i (by omega)
      obtain ⟨s, es, _⟩ := DataW.trod_string us g0
      simp at es
      rw [Go.WideShapes.add_plain] at c0
      exact ⟨s, by rw [c0, es]⟩
theorem open_year {r : Reach} {b0 : Nat} {v : Value} {d : DataW H} {p : List MemPlace} (Y : LayY P t ti te f0 f1 f2 f3 f4 e0 e1) (hv : Value.okWide P W r b0 t v) (h : DataW.Trod enc P W 0 (fun _ => true) true t v d p) :
    ∃ (yp yi yw : Int) (Y3 : Option Addr) (m3 k3 : Nat) (Y4 : Option Addr) (m4 k4 : Nat), v = .agg #[.int .i64 yp, .int .i64 yi, .int .i64 yw, .slice Y3 m3 k3, .slice Y4 m4 k4] ∧ m3 ≤ 9223372036854775807 ∧ RdE W W.heap.size Y4 m4 ∧ m4 ≤ 9223372036854775807 := by
  obtain ⟨cs, rfl, hsz⟩ := okWide_struct Y.hs hv
  obtain ⟨fuel, hf⟩ := h
  obtain ⟨a0, a1, a2, a3, a4, rfl⟩ := array5 (hsz.trans Y.hC)
  obtain ⟨y0, y1, y2, y3, y4, n, h0, h1, h2, h3, h4⟩ := trod_struct5 Y.hs hf
  simp [Value.cells, Y.o0, Y.o1, Y.o2, Y.o3, Y.o4, Y.k0, Y.k1, Y.k2, Y.k3, Y.k4] at h0 h1 h2 h3 h4
  obtain ⟨yp, e0', _, _⟩ := DataW.trod_int Y.u0 h0
  obtain ⟨yi, e1', _, _⟩ := DataW.trod_int Y.u1 h1
  obtain ⟨yw, e2', _, _⟩ := DataW.trod_int Y.u2 h2
  simp at e0' e1' e2'
  subst e0' e1' e2'
  obtain ⟨Y3, m3, k3, hs3⟩ := slice_form Y.u3 h3
  obtain ⟨Y4, m4, k4, hs4⟩ := slice_form Y.u4 h4
  simp at hs3 hs4
  subst hs3 hs4
  obtain ⟨l3, rfl, hl3, _, _⟩ := open_rdI (d := y3.1) (p := y3.2) Y.u3 Y.ui Y.ci ⟨n, by simpa [Value.cells] using h3⟩
  obtain ⟨hE, hl4⟩ := open_rdE Y.u4 Y.ue Y.ce Y.p0 Y.p1 Y.q0 Y.q1 Y.us h4
  exact ⟨yp, yi, yw, Y3, l3.length, k3, Y4, m4, k4, rfl, hl3, hE, hl4⟩
end
theorem layY : ∃ f0 f1 f2 f3 f4 e0 e1, LayY Try.prog 25 3 61 f0 f1 f2 f3 f4 e0 e1 := ⟨_, _, _, _, _, _, _, Try.underlying25, by kernel_rfl, rfl, rfl, rfl, rfl, rfl, by kernel_rfl, by kernel_rfl, by kernel_rfl, by kernel_rfl, by kernel_rfl, Try.underlying3, Try.underlying3, Try.underlying3, Try.underlying22, Try.underlying3, by kernel_rfl, Try.underlying23, Try.underlying61, by kernel_rfl, rfl, rfl, by kernel_rfl, by kernel_rfl, Try.underlying9⟩
end Go.Proofs.Ytcincmlpegnaiaa
