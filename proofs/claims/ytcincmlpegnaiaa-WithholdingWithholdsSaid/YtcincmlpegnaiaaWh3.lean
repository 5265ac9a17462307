/-
  Chapter 30: taxOf and tax.
-/
import Derived.Test.YtcincmlpegnaiaaWh2
namespace Go.Proofs.Ytcincmlpegnaiaa
open Go.RowKit
set_option linter.unusedVariables false
set_option linter.unusedSimpArgs false

/-- the tax of a year for brackets, an allowance and a credit -/
noncomputable def txV (l : List (Int × Int)) (un mo al cr inc : Int) : Int := max (taxV l (max (inc - al) 0) un mo - cr) 0

theorem retI_of {u v : Int} {w w' : World} (h : u = v) (hb : Below w.heap.size w w') : RetI v w (.returned (.int .i64 u)) w' := by subst h; exact ⟨rfl, hb⟩
set_option maxHeartbeats 1600000 in
theorem taxOf_any (t : TF) (L : TL) (B : Nat) (w : World) (hr : RdT w B L t) (hB : B ≤ w.heap.size) (inc : Int) (h0 : 0 ≤ inc) (h1 : inc ≤ 1000000000000) (ha0 : 0 ≤ t.al) (ha1 : t.al ≤ 1000000000) (hc0 : 0 ≤ t.cr) (hc1 : t.cr ≤ 1000000000)
    (he : taxE t.bk (max (inc - t.al) 0) t.un t.mo = 0) (hv0 : 0 ≤ taxV t.bk (max (inc - t.al) 0) t.un t.mo) (hv1 : taxV t.bk (max (inc - t.al) 0) t.un t.mo ≤ 2000000000000) :
    Calls Try.prog 48 #[.agg #[.int .i64 t.m, .slice L.Ab t.bk.length L.nb, .int .i64 t.al, .int .i64 t.cr, .int .i64 t.un, .int .i64 t.mo, .slice L.Ar t.rw.length L.nr], .int .i64 inc] w (RetII (txV t.bk t.un t.mo t.al t.cr inc) 0 w) := by
  have HX : Hid (txV t.bk t.un t.mo t.al t.cr inc = max (taxV t.bk (max (inc - t.al) 0) t.un t.mo - t.cr) 0) := Lib.hid rfl
  have HTX : Hid (∀ y W, BX w #[.int .i64 t.m, .slice L.Ab t.bk.length L.nb, .int .i64 t.al, .int .i64 t.cr, .int .i64 t.un, .int .i64 t.mo, .slice L.Ar t.rw.length L.nr] W → Calls Try.prog 57 #[.slice L.Ab t.bk.length L.nb, .int .i64 y, .int .i64 t.un, .int .i64 t.mo] W (RetII (taxV t.bk y t.un t.mo) (taxE t.bk y t.un t.mo) W)) := Lib.hid (fun y W h => tax_any L.Ab L.nb w.heap.size t.bk W (Rd.below (Rd.more hr.b hB) h.below) h.below.size hr.lb y t.un t.mo)
  have HBX := Lib.hid (BX.start w #[.int .i64 t.m, .slice L.Ab t.bk.length L.nb, .int .i64 t.al, .int .i64 t.cr, .int .i64 t.un, .int .i64 t.mo, .slice L.Ar t.rw.length L.nr])
  clear hr
  have HY : Hid (∀ y, max (inc - t.al) 0 = y → ∀ W, BX w #[.int .i64 t.m, .slice L.Ab t.bk.length L.nb, .int .i64 t.al, .int .i64 t.cr, .int .i64 t.un, .int .i64 t.mo, .slice L.Ar t.rw.length L.nr] W → Calls Try.prog 57 #[.slice L.Ab t.bk.length L.nb, .int .i64 y, .int .i64 t.un, .int .i64 t.mo] W (RetII (taxV t.bk (max (inc - t.al) 0) t.un t.mo) 0 W)) := Lib.hid (fun y hy W h => by
    have := HTX.out y W h
    rw [← hy, he] at this
    rw [← hy]
    exact this)
  clear HTX he
  generalize taxV t.bk (max (inc - t.al) 0) t.un t.mo = v at *
  by_cases g1 : 0 ≤ inc - t.al
  · have HY := Lib.hid (HY.out (inc - t.al) (by omega))
    by_cases g2 : 0 ≤ v - t.cr
    all_goals
      go_enter Try.func48, Try.ntmps48
      go_wp2_with fail
      refine (HY.out _ HBX.out).mono ?_
      rintro e w1 ⟨rfl, hb⟩
      have HBX := Lib.hid (HBX.out.calc_ hb)
      clear hb
      have x0 := HBX.out.box.cell 0
      have x1 := HBX.out.box.cell 1
      have x2 := HBX.out.box.cell 2
      have x3 := HBX.out.box.cell 3
      have x4 := HBX.out.box.cell 4
      have x5 := HBX.out.box.cell 5
      have x6 := HBX.out.box.cell 6
      simp at x0 x1 x2 x3 x4 x5 x6
      go_wp2
      go_ret2
      exact retII_of (by rw [HX.out]; omega) rfl HBX.out.below
  · have HY := Lib.hid (HY.out 0 (by omega))
    by_cases g2 : 0 ≤ v - t.cr
    all_goals
      go_enter Try.func48, Try.ntmps48
      go_wp2_with fail
      refine (HY.out _ HBX.out).mono ?_
      rintro e w1 ⟨rfl, hb⟩
      have HBX := Lib.hid (HBX.out.calc_ hb)
      clear hb
      have x0 := HBX.out.box.cell 0
      have x1 := HBX.out.box.cell 1
      have x2 := HBX.out.box.cell 2
      have x3 := HBX.out.box.cell 3
      have x4 := HBX.out.box.cell 4
      have x5 := HBX.out.box.cell 5
      have x6 := HBX.out.box.cell 6
      simp at x0 x1 x2 x3 x4 x5 x6
      go_wp2
      go_ret2
      exact retII_of (by rw [HX.out]; omega) rfl HBX.out.below

set_option maxHeartbeats 1600000 in
theorem taxR_any (t : TF) (L : TL) (l : List (Int × Int)) (A : Option Addr) (c : Nat) (al cr : Int) (B : Nat) (w : World) (hr : RdP w B A l) (hB : B ≤ w.heap.size) (hl : l.length ≤ 9223372036854775807) (inc : Int) (h0 : 0 ≤ inc) (h1 : inc ≤ 1000000000000) (ha0 : 0 ≤ al) (ha1 : al ≤ 1000000000) (hc0 : 0 ≤ cr) (hc1 : cr ≤ 1000000000)
    (he : taxE l (max (inc - al) 0) t.un t.mo = 0) (hv0 : 0 ≤ taxV l (max (inc - al) 0) t.un t.mo) (hv1 : taxV l (max (inc - al) 0) t.un t.mo ≤ 2000000000000) :
    Calls Try.prog 50 #[.agg #[.int .i64 t.m, .slice L.Ab t.bk.length L.nb, .int .i64 t.al, .int .i64 t.cr, .int .i64 t.un, .int .i64 t.mo, .slice L.Ar t.rw.length L.nr], .slice A l.length c, .int .i64 al, .int .i64 cr, .int .i64 inc] w (RetI (txV l t.un t.mo al cr inc) w) := by
  have HX : Hid (txV l t.un t.mo al cr inc = max (taxV l (max (inc - al) 0) t.un t.mo - cr) 0) := Lib.hid rfl
  have HTX : Hid (∀ y W, BX w #[.int .i64 t.m, .slice L.Ab t.bk.length L.nb, .int .i64 t.al, .int .i64 t.cr, .int .i64 t.un, .int .i64 t.mo, .slice L.Ar t.rw.length L.nr] W → Calls Try.prog 58 #[.slice A l.length c, .int .i64 y, .int .i64 t.un, .int .i64 t.mo] W (RetII (taxV l y t.un t.mo) (taxE l y t.un t.mo) W)) := Lib.hid (fun y W h => refTax_any A c w.heap.size l W (Rd.below (Rd.more hr hB) h.below) h.below.size hl y t.un t.mo)
  have HBX := Lib.hid (BX.start w #[.int .i64 t.m, .slice L.Ab t.bk.length L.nb, .int .i64 t.al, .int .i64 t.cr, .int .i64 t.un, .int .i64 t.mo, .slice L.Ar t.rw.length L.nr])
  clear hr
  have HY : Hid (∀ y, max (inc - al) 0 = y → ∀ W, BX w #[.int .i64 t.m, .slice L.Ab t.bk.length L.nb, .int .i64 t.al, .int .i64 t.cr, .int .i64 t.un, .int .i64 t.mo, .slice L.Ar t.rw.length L.nr] W → Calls Try.prog 58 #[.slice A l.length c, .int .i64 y, .int .i64 t.un, .int .i64 t.mo] W (RetII (taxV l (max (inc - al) 0) t.un t.mo) 0 W)) := Lib.hid (fun y hy W h => by
    have := HTX.out y W h
    rw [← hy, he] at this
    rw [← hy]
    exact this)
  clear HTX he
  generalize taxV l (max (inc - al) 0) t.un t.mo = v at *
  by_cases g1 : 0 ≤ inc - al
  · have HY := Lib.hid (HY.out (inc - al) (by omega))
    by_cases g2 : 0 ≤ v - cr
    all_goals
      go_enter Try.func50, Try.ntmps50
      go_wp2_with fail
      refine (HY.out _ HBX.out).mono ?_
      rintro e w1 ⟨rfl, hb⟩
      have HBX := Lib.hid (HBX.out.calc_ hb)
      clear hb
      have x0 := HBX.out.box.cell 0
      have x1 := HBX.out.box.cell 1
      have x2 := HBX.out.box.cell 2
      have x3 := HBX.out.box.cell 3
      have x4 := HBX.out.box.cell 4
      have x5 := HBX.out.box.cell 5
      have x6 := HBX.out.box.cell 6
      simp at x0 x1 x2 x3 x4 x5 x6
      go_wp2
      go_ret
      exact retI_of (by rw [HX.out]; omega) HBX.out.below
  · have HY := Lib.hid (HY.out 0 (by omega))
    by_cases g2 : 0 ≤ v - cr
    all_goals
      go_enter Try.func50, Try.ntmps50
      go_wp2_with fail
      refine (HY.out _ HBX.out).mono ?_
      rintro e w1 ⟨rfl, hb⟩
      have HBX := Lib.hid (HBX.out.calc_ hb)
      clear hb
      have x0 := HBX.out.box.cell 0
      have x1 := HBX.out.box.cell 1
      have x2 := HBX.out.box.cell 2
      have x3 := HBX.out.box.cell 3
      have x4 := HBX.out.box.cell 4
      have x5 := HBX.out.box.cell 5
      have x6 := HBX.out.box.cell 6
      simp at x0 x1 x2 x3 x4 x5 x6
      go_wp2
      go_ret
      exact retI_of (by rw [HX.out]; omega) HBX.out.below

end Go.Proofs.Ytcincmlpegnaiaa
