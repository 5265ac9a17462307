/-
  Chapter 40: what the listed variable gives the walks: the table of transitions in memory. No conditions.
-/
import Derived.Test.YtolkdidcmingkaaDoorOpen
import Derived.Test.YtolkdidcmingkaaDoorRun2
import Derived.LaidMore
import Derived.Stop.Joined
import Derived.Deep.Strs
namespace Go.Proofs.YtolkdidcmingkaaDoor
open Go.ChangeShapes Go.WideShapes Go.ChangeAt Go.RowKit Go.Deep
set_option linter.unusedVariables false
set_option linter.unusedSimpArgs false

def laidT : List (String × DataW Unit) := [("payroll/run.transitions", Rows.laid_payroll_run_transitions)]
theorem gTr : Tryd.prog.globalNamed "payroll/run.transitions" = some 0 := by kernel_rfl
theorem tTr : (Tryd.prog.globals[0]?).map (·.type) = some 62 := by kernel_rfl
theorem door_met (os : Os) (args : Array Value) : laidMetH Tryd.prog laidT ((World.doorLaid Tryd.prog 400 os).forCall (fun _ _ => 0) ⟨#[], args, []⟩).memory :=
  laidMetH_of_parts3 (fuel := 8) (laidMet_of_run' 8 (by kernel_rfl) (by kernel_rfl)) (by kernel_rfl) (by kernel_rfl)
section
variable {H : Type} {enc : TypeId × Value → H} {w : World} {base : Nat} {spare : Nat → Bool} {held : Bool}
theorem one_of {l : List Value} {k : Nat} {v : Value} (h : (l.drop k).take 1 = [v]) : l[k]? = some v := by
  have : ((l.drop k).take 1)[0]? = l[k]? := by rw [List.getElem?_take, if_pos (by omega), List.getElem?_drop]; simp
  rw [← this, h]; rfl
theorem tr_elem {fuel : Nat} {cs : List Value} {x : DataW H × List MemPlace} {a b d : Int} (h : DataW.trod enc Tryd.prog w base spare held fuel 61 cs = some x) (hx : x.1 = .agg [.lit (.int .i64 a), .lit (.int .i64 b), .lit (.int .i64 d)]) :
    cs = [.int .i64 a, .int .i64 b, .int .i64 d] := by
  obtain ⟨y0, y1, y2, n, rfl, hl, h0, h1, h2⟩ := trod_struct3 Tryd.underlying61 h
  have hl3 : cs.length = 3 := hl.trans (by kernel_rfl)
  obtain ⟨a', e0, f0, _⟩ := DataW.trod_int Tryd.underlying3 h0
  obtain ⟨b', e1, f1, _⟩ := DataW.trod_int Tryd.underlying3 h1
  obtain ⟨d', e2, f2, _⟩ := DataW.trod_int Tryd.underlying3 h2
  subst f0 f1 f2
  simp at hx
  obtain ⟨rfl, rfl, rfl⟩ := hx
  have c1 : Tryd.prog.cellsOf 3 = 1 := by kernel_rfl
  have g0 := one_of (l := cs) (k := 0) (by simpa [c1] using e0)
  have g1 := one_of (l := cs) (k := 1) (by simpa [c1] using e1)
  have g2 := one_of (l := cs) (k := 2) (by simpa [c1] using e2)
  apply List.ext_getElem?
  intro m
  by_cases hm : m < 3
  · have : m = 0 ∨ m = 1 ∨ m = 2 := by omega
    rcases this with rfl | rfl | rfl
    · rw [g0]; rfl
    · rw [g1]; rfl
    · rw [g2]; rfl
  · rw [List.getElem?_eq_none (by omega), List.getElem?_eq_none (by simp; omega)]
end
theorem tab_of {cs : List Value} (hlen : cs.length = 30) (h : ∀ i, i < 10 → (cs.drop (i * 3)).take 3 = [.int .i64 (tA TR i), .int .i64 (tB TR i), .int .i64 (tC TR i)]) : cs = tabV.toList := by
  apply List.ext_getElem?
  intro m
  by_cases hm : m < 30
  · have hi := h (m / 3) (by omega)
    have e : ((cs.drop (m / 3 * 3)).take 3)[m % 3]? = cs[m]? := by
      rw [List.getElem?_take, if_pos (by omega), List.getElem?_drop]
      congr 1
      omega
    rw [← e, hi]
    have : m = 0 ∨ m = 1 ∨ m = 2 ∨ m = 3 ∨ m = 4 ∨ m = 5 ∨ m = 6 ∨ m = 7 ∨ m = 8 ∨ m = 9 ∨ m = 10 ∨ m = 11 ∨ m = 12 ∨ m = 13 ∨ m = 14 ∨ m = 15 ∨ m = 16 ∨ m = 17 ∨ m = 18 ∨ m = 19 ∨ m = 20 ∨ m = 21 ∨ m = 22 ∨ m = 23 ∨ m = 24 ∨ m = 25 ∨ m = 26 ∨ m = 27 ∨ m = 28 ∨ m = 29 := by omega
    rcases this with rfl | rfl | rfl | rfl | rfl | rfl | rfl | rfl | rfl | rfl | rfl | rfl | rfl | rfl | rfl | rfl | rfl | rfl | rfl | rfl | rfl | rfl | rfl | rfl | rfl | rfl | rfl | rfl | rfl | rfl <;> rfl
  · rw [List.getElem?_eq_none (by omega), List.getElem?_eq_none (by simp [tabV]; omega)]
theorem of_laid {W : World} (h : laidMetH Tryd.prog laidT W) : Tab W := by
  rw [MakeChecks.laidMetH_plain _ _ _ (by kernel_rfl)] at h
  obtain ⟨ps, ⟨g0, t0, cs0, f0, p0, q0, hg0, ht0, hv0, hd0, _, _⟩, _, _⟩ := h
  obtain rfl := Option.some.inj (gTr.symm.trans hg0)
  obtain rfl := Option.some.inj (tTr.symm.trans ht0)
  obtain ⟨xs, m, _, hx, hlen, hn, hel⟩ := DataW.trod_array Tryd.underlying62 hd0
  have c3 : Tryd.prog.cellsOf 61 = 3 := by kernel_rfl
  have c30 : Tryd.prog.cellsOf 62 = 30 := by kernel_rfl
  simp only [Prod.mk.injEq, Rows.laid_payroll_run_transitions, DataW.agg.injEq] at hx
  have hcs : cs0.toList = tabV.toList := by
    refine tab_of (hlen.trans c30) (fun i hi => ?_)
    have h1 := hel i hi
    rw [c3] at h1
    have hlt : i < xs.length := by omega
    rw [List.getElem?_eq_getElem hlt] at h1
    refine tr_elem h1 ?_
    have h2 : (xs.map (·.1))[i]? = some xs[i].1 := by simp [hlt]
    rw [← hx.1] at h2
    have : i = 0 ∨ i = 1 ∨ i = 2 ∨ i = 3 ∨ i = 4 ∨ i = 5 ∨ i = 6 ∨ i = 7 ∨ i = 8 ∨ i = 9 := by omega
    rcases this with rfl | rfl | rfl | rfl | rfl | rfl | rfl | rfl | rfl | rfl <;> (simp at h2; rw [← h2]; rfl)
  have hcs' : cs0 = tabV := by
    have := congrArg List.toArray hcs
    simpa using this
  subst hcs'
  simp only [World.var?, gTr, Option.bind_some] at hv0
  unfold Tab
  cases hh : W.heap[0]? with
  | none => rw [hh] at hv0; simp at hv0
  | some o =>
    rw [hh] at hv0
    cases o with
    | cells c t fr => simp at hv0; subst hv0; exact ⟨t, fr, rfl⟩
    | _ => simp at hv0
end Go.Proofs.YtolkdidcmingkaaDoor
