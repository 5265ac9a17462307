/-
  Chapter 30: Withhold of the reference.
-/
import Derived.Test.YtcincmlpegnaiaaWh24
namespace Go.Proofs.Ytcincmlpegnaiaa
open Go.RowKit
set_option linter.unusedVariables false
set_option linter.unusedSimpArgs false

set_option maxHeartbeats 3200000 in
theorem rwithhold_any (t : TF) (L : TL) (w : World) (hr : RdT w w.heap.size L t) (c yp yi yw : Int) (Y3 : Option Addr) (m3 k3 : Nat) (Y4 : Option Addr) (m4 k4 : Nat) (inc : Int) :
    Calls Try.prog 20 #[.agg #[.int .i64 t.m, .slice L.Ab t.bk.length L.nb, .int .i64 t.al, .int .i64 t.cr, .int .i64 t.un, .int .i64 t.mo, .slice L.Ar t.rw.length L.nr], .int .i64 c, .agg #[.int .i64 yp, .int .i64 yi, .int .i64 yw, .slice Y3 m3 k3, .slice Y4 m4 k4], .int .i64 inc] w (RetII (whV t c yp yi yw inc) (whE t c yp yi yw inc) w) := by
  have HRT : Hid (∀ W, WB w #[.int .i64 t.m, .slice L.Ab t.bk.length L.nb, .int .i64 t.al, .int .i64 t.cr, .int .i64 t.un, .int .i64 t.mo, .slice L.Ar t.rw.length L.nr] #[.int .i64 yp, .int .i64 yi, .int .i64 yw, .slice Y3 m3 k3, .slice Y4 m4 k4] W → RdT W W.heap.size L t) := Lib.hid (fun W h => (hr.below h.below).more h.below.size)
  clear hr
  have HVA : Hid (∀ W, WB w #[.int .i64 t.m, .slice L.Ab t.bk.length L.nb, .int .i64 t.al, .int .i64 t.cr, .int .i64 t.un, .int .i64 t.mo, .slice L.Ar t.rw.length L.nr] #[.int .i64 yp, .int .i64 yi, .int .i64 yw, .slice Y3 m3 k3, .slice Y4 m4 k4] W → Calls Try.prog 44 #[.agg #[.int .i64 t.m, .slice L.Ab t.bk.length L.nb, .int .i64 t.al, .int .i64 t.cr, .int .i64 t.un, .int .i64 t.mo, .slice L.Ar t.rw.length L.nr]] W (RetB (tvB t) W)) := Lib.hid (fun W h => rvalid_any t L W.heap.size W (HRT.out W h) (Nat.le_refl _))
  have HLK : Hid (∀ W, WB w #[.int .i64 t.m, .slice L.Ab t.bk.length L.nb, .int .i64 t.al, .int .i64 t.cr, .int .i64 t.un, .int .i64 t.mo, .slice L.Ar t.rw.length L.nr] #[.int .i64 yp, .int .i64 yi, .int .i64 yw, .slice Y3 m3 k3, .slice Y4 m4 k4] W → Calls Try.prog 46 #[.slice L.Ar t.rw.length L.nr, .int .i64 inc] W (RetII (lkV t.rw inc) (lkE t.rw inc) W)) := Lib.hid (fun W h => rlookup_any L.Ar L.nr W.heap.size t.rw W (HRT.out W h).r (Nat.le_refl _) (HRT.out W h).lr inc)
  have HFR : Hid (∀ W, WB w #[.int .i64 t.m, .slice L.Ab t.bk.length L.nb, .int .i64 t.al, .int .i64 t.cr, .int .i64 t.un, .int .i64 t.mo, .slice L.Ar t.rw.length L.nr] #[.int .i64 yp, .int .i64 yi, .int .i64 yw, .slice Y3 m3 k3, .slice Y4 m4 k4] W → Calls Try.prog 35 #[.agg #[.int .i64 t.m, .slice L.Ab t.bk.length L.nb, .int .i64 t.al, .int .i64 t.cr, .int .i64 t.un, .int .i64 t.mo, .slice L.Ar t.rw.length L.nr], .int .i64 inc, .int .i64 c] W (RetII (frmV t inc c) (frmE t inc c) W)) := Lib.hid (fun W h => rformula_any t L W.heap.size W (HRT.out W h) (Nat.le_refl _) inc c)
  have HCU : Hid (∀ W, WB w #[.int .i64 t.m, .slice L.Ab t.bk.length L.nb, .int .i64 t.al, .int .i64 t.cr, .int .i64 t.un, .int .i64 t.mo, .slice L.Ar t.rw.length L.nr] #[.int .i64 yp, .int .i64 yi, .int .i64 yw, .slice Y3 m3 k3, .slice Y4 m4 k4] W → Calls Try.prog 24 #[.agg #[.int .i64 t.m, .slice L.Ab t.bk.length L.nb, .int .i64 t.al, .int .i64 t.cr, .int .i64 t.un, .int .i64 t.mo, .slice L.Ar t.rw.length L.nr], .int .i64 c, .int .i64 (yp + 1), .int .i64 (yi + inc), .int .i64 yw] W (RetII (cumV t c (yp + 1) (yi + inc) yw) (cumE t c (yp + 1) (yi + inc) yw) W)) := Lib.hid (fun W h => rcumulative_any t L W.heap.size W (HRT.out W h) (Nat.le_refl _) c (yp + 1) (yi + inc) yw)
  have HA1 : Hid (∀ W, Calls Try.prog 45 #[.int .i64 inc, .int .i64 1000000000] W (RetQ (amtB inc) W)) := Lib.hid (fun W => in_any inc 1000000000 W)
  have HA2 : Hid (∀ W, Calls Try.prog 45 #[.int .i64 yi, .int .i64 999000000000] W (RetQ (inM yi 999000000000) W)) := Lib.hid (fun W => in_any yi 999000000000 W)
  have HWB := Lib.hid (WB.start w #[.int .i64 t.m, .slice L.Ab t.bk.length L.nb, .int .i64 t.al, .int .i64 t.cr, .int .i64 t.un, .int .i64 t.mo, .slice L.Ar t.rw.length L.nr] #[.int .i64 yp, .int .i64 yi, .int .i64 yw, .slice Y3 m3 k3, .slice Y4 m4 k4])
  have ha1 : amtB inc = true ↔ 0 ≤ inc ∧ inc ≤ 1000000000 := amt_iff
  have ha2 : inM yi 999000000000 = true ↔ 0 ≤ yi ∧ yi ≤ 999000000000 := by simp [inM]
  have HW1 : Hid (tvB t = false → whV t c yp yi yw inc = 0 ∧ whE t c yp yi yw inc = 1) := Lib.hid (fun h => wh_bad h)
  have HW2 : Hid (tvB t = true → ¬ limP c yp → whV t c yp yi yw inc = 0 ∧ whE t c yp yi yw inc = 3) := Lib.hid (fun h => wh_lim h)
  have HW3 : Hid (tvB t = true → limP c yp → ¬ rngP inc yi yw → whV t c yp yi yw inc = 0 ∧ whE t c yp yi yw inc = 2) := Lib.hid (fun h => wh_rng h)
  have HW4 : Hid (tvB t = true → limP c yp → rngP inc yi yw → whV t c yp yi yw inc = mthV t c yp yi yw inc ∧ whE t c yp yi yw inc = mthE t c yp yi yw inc) := Lib.hid (fun h => wh_ok h)
  have HMT : Hid ((t.m = 1 → mthV t c yp yi yw inc = lkV t.rw inc ∧ mthE t c yp yi yw inc = lkE t.rw inc) ∧ (t.m = 2 → mthV t c yp yi yw inc = frmV t inc c ∧ mthE t c yp yi yw inc = frmE t inc c) ∧ (¬ t.m = 1 → ¬ t.m = 2 → mthV t c yp yi yw inc = cumV t c (yp + 1) (yi + inc) yw ∧ mthE t c yp yi yw inc = cumE t c (yp + 1) (yi + inc) yw)) := Lib.hid mth_is
  generalize tvB t = vb at *
  cases vb
  · have HN := Lib.hid (HW1.out rfl)
    clear HW1 HW2 HW3 HW4 HMT
    go_enter Try.func20, Try.ntmps20
    go_wp2_with fail
    refine (HVA.out _ HWB.out).mono ?_
    rintro e w1 ⟨rfl, hb⟩
    have HWB := Lib.hid (HWB.out.calc_ hb)
    clear hb
    have x0 := HWB.out.box.cell 0
    have x1 := HWB.out.box.cell 1
    have x2 := HWB.out.box.cell 2
    have x3 := HWB.out.box.cell 3
    have x4 := HWB.out.box.cell 4
    have x5 := HWB.out.box.cell 5
    have x6 := HWB.out.box.cell 6
    have y0 := HWB.out.yb.cell 0
    have y1 := HWB.out.yb.cell 1
    have y2 := HWB.out.yb.cell 2
    have y3 := HWB.out.yb.cell 3
    have y4 := HWB.out.yb.cell 4
    simp at x0 x1 x2 x3 x4 x5 x6 y0 y1 y2 y3 y4
    go_wp2
    go_ret2
    exact retII_of HN.out.1.symm HN.out.2.symm HWB.out.below
  · have HW2 := Lib.hid (HW2.out rfl)
    have HW3 := Lib.hid (HW3.out rfl)
    have HW4 := Lib.hid (HW4.out rfl)
    clear HW1
    rcases bool_cases (c < 1) with t0 | t0
    · have HN := Lib.hid (HW2.out (by simp at t0; omega))
      clear HW2 HW3 HW4 HMT
      go_enter Try.func20, Try.ntmps20
      go_wp2_with fail
      refine (HVA.out _ HWB.out).mono ?_
      rintro e w1 ⟨rfl, hb⟩
      have HWB := Lib.hid (HWB.out.calc_ hb)
      clear hb
      have x0 := HWB.out.box.cell 0
      have x1 := HWB.out.box.cell 1
      have x2 := HWB.out.box.cell 2
      have x3 := HWB.out.box.cell 3
      have x4 := HWB.out.box.cell 4
      have x5 := HWB.out.box.cell 5
      have x6 := HWB.out.box.cell 6
      have y0 := HWB.out.yb.cell 0
      have y1 := HWB.out.yb.cell 1
      have y2 := HWB.out.yb.cell 2
      have y3 := HWB.out.yb.cell 3
      have y4 := HWB.out.yb.cell 4
      simp at x0 x1 x2 x3 x4 x5 x6 y0 y1 y2 y3 y4
      go_wp2
      go_ret2
      exact retII_of HN.out.1.symm HN.out.2.symm HWB.out.below
    rcases bool_cases (53 < c) with t1 | t1
    · have HN := Lib.hid (HW2.out (by simp at t1; omega))
      clear HW2 HW3 HW4 HMT
      go_enter Try.func20, Try.ntmps20
      go_wp2_with fail
      refine (HVA.out _ HWB.out).mono ?_
      rintro e w1 ⟨rfl, hb⟩
      have HWB := Lib.hid (HWB.out.calc_ hb)
      clear hb
      have x0 := HWB.out.box.cell 0
      have x1 := HWB.out.box.cell 1
      have x2 := HWB.out.box.cell 2
      have x3 := HWB.out.box.cell 3
      have x4 := HWB.out.box.cell 4
      have x5 := HWB.out.box.cell 5
      have x6 := HWB.out.box.cell 6
      have y0 := HWB.out.yb.cell 0
      have y1 := HWB.out.yb.cell 1
      have y2 := HWB.out.yb.cell 2
      have y3 := HWB.out.yb.cell 3
      have y4 := HWB.out.yb.cell 4
      simp at x0 x1 x2 x3 x4 x5 x6 y0 y1 y2 y3 y4
      go_wp2
      go_ret2
      exact retII_of HN.out.1.symm HN.out.2.symm HWB.out.below
    have hc0 : 1 ≤ c := by simp at t0; omega
    have hc1 : c ≤ 53 := by simp at t1; omega
    rcases bool_cases (yp < 0) with t2 | t2
    · have HN := Lib.hid (HW2.out (by simp at t2; omega))
      clear HW2 HW3 HW4 HMT
      go_enter Try.func20, Try.ntmps20
      go_wp2_with fail
      refine (HVA.out _ HWB.out).mono ?_
      rintro e w1 ⟨rfl, hb⟩
      have HWB := Lib.hid (HWB.out.calc_ hb)
      clear hb
      have x0 := HWB.out.box.cell 0
      have x1 := HWB.out.box.cell 1
      have x2 := HWB.out.box.cell 2
      have x3 := HWB.out.box.cell 3
      have x4 := HWB.out.box.cell 4
      have x5 := HWB.out.box.cell 5
      have x6 := HWB.out.box.cell 6
      have y0 := HWB.out.yb.cell 0
      have y1 := HWB.out.yb.cell 1
      have y2 := HWB.out.yb.cell 2
      have y3 := HWB.out.yb.cell 3
      have y4 := HWB.out.yb.cell 4
      simp at x0 x1 x2 x3 x4 x5 x6 y0 y1 y2 y3 y4
      go_wp2
      go_ret2
      exact retII_of HN.out.1.symm HN.out.2.symm HWB.out.below
    rcases bool_cases (c ≤ yp) with t3 | t3
    · have HN := Lib.hid (HW2.out (by simp at t3; omega))
      clear HW2 HW3 HW4 HMT
      go_enter Try.func20, Try.ntmps20
      go_wp2_with fail
      refine (HVA.out _ HWB.out).mono ?_
      rintro e w1 ⟨rfl, hb⟩
      have HWB := Lib.hid (HWB.out.calc_ hb)
      clear hb
      have x0 := HWB.out.box.cell 0
      have x1 := HWB.out.box.cell 1
      have x2 := HWB.out.box.cell 2
      have x3 := HWB.out.box.cell 3
      have x4 := HWB.out.box.cell 4
      have x5 := HWB.out.box.cell 5
      have x6 := HWB.out.box.cell 6
      have y0 := HWB.out.yb.cell 0
      have y1 := HWB.out.yb.cell 1
      have y2 := HWB.out.yb.cell 2
      have y3 := HWB.out.yb.cell 3
      have y4 := HWB.out.yb.cell 4
      simp at x0 x1 x2 x3 x4 x5 x6 y0 y1 y2 y3 y4
      go_wp2
      go_ret2
      exact retII_of HN.out.1.symm HN.out.2.symm HWB.out.below
    have hlim : limP c yp := by simp at t0 t1 t2 t3; omega
    have HW3 := Lib.hid (HW3.out hlim)
    have HW4 := Lib.hid (HW4.out hlim)
    clear HW2
    generalize amtB inc = ab at *
    cases ab
    · have HN := Lib.hid (HW3.out (fun h => by have := ha1.2 ⟨h.1, h.2.1⟩; cases this))
      clear HW3 HW4 HMT ha1 ha2
      go_enter Try.func20, Try.ntmps20
      go_wp2_with fail
      refine (HVA.out _ HWB.out).mono ?_
      rintro e w1 ⟨rfl, hb⟩
      have HWB := Lib.hid (HWB.out.calc_ hb)
      clear hb
      have x0 := HWB.out.box.cell 0
      have x1 := HWB.out.box.cell 1
      have x2 := HWB.out.box.cell 2
      have x3 := HWB.out.box.cell 3
      have x4 := HWB.out.box.cell 4
      have x5 := HWB.out.box.cell 5
      have x6 := HWB.out.box.cell 6
      have y0 := HWB.out.yb.cell 0
      have y1 := HWB.out.yb.cell 1
      have y2 := HWB.out.yb.cell 2
      have y3 := HWB.out.yb.cell 3
      have y4 := HWB.out.yb.cell 4
      simp at x0 x1 x2 x3 x4 x5 x6 y0 y1 y2 y3 y4
      go_wp2_with fail
      refine (HA1.out _).mono ?_
      rintro e wc ⟨rfl, rfl⟩
      go_wp2
      go_ret2
      exact retII_of HN.out.1.symm HN.out.2.symm HWB.out.below
    have hb1 := ha1.1 rfl
    clear ha1
    generalize inM yi 999000000000 = ac at *
    cases ac
    · have HN := Lib.hid (HW3.out (fun h => by have := ha2.2 ⟨h.2.2.1, h.2.2.2.1⟩; cases this))
      clear HW3 HW4 HMT ha2
      go_enter Try.func20, Try.ntmps20
      go_wp2_with fail
      refine (HVA.out _ HWB.out).mono ?_
      rintro e w1 ⟨rfl, hb⟩
      have HWB := Lib.hid (HWB.out.calc_ hb)
      clear hb
      have x0 := HWB.out.box.cell 0
      have x1 := HWB.out.box.cell 1
      have x2 := HWB.out.box.cell 2
      have x3 := HWB.out.box.cell 3
      have x4 := HWB.out.box.cell 4
      have x5 := HWB.out.box.cell 5
      have x6 := HWB.out.box.cell 6
      have y0 := HWB.out.yb.cell 0
      have y1 := HWB.out.yb.cell 1
      have y2 := HWB.out.yb.cell 2
      have y3 := HWB.out.yb.cell 3
      have y4 := HWB.out.yb.cell 4
      simp at x0 x1 x2 x3 x4 x5 x6 y0 y1 y2 y3 y4
      go_wp2_with fail
      refine (HA1.out _).mono ?_
      rintro e wc ⟨rfl, rfl⟩
      go_wp2_with fail
      refine (HA2.out _).mono ?_
      rintro e wd ⟨rfl, rfl⟩
      go_wp2
      go_ret2
      exact retII_of HN.out.1.symm HN.out.2.symm HWB.out.below
    have hb2 := ha2.1 rfl
    clear ha2
    rcases bool_cases (yw < -1000000000000) with s0 | s0
    · have HN := Lib.hid (HW3.out (by simp at s0; omega))
      clear HW3 HW4 HMT
      go_enter Try.func20, Try.ntmps20
      go_wp2_with fail
      refine (HVA.out _ HWB.out).mono ?_
      rintro e w1 ⟨rfl, hb⟩
      have HWB := Lib.hid (HWB.out.calc_ hb)
      clear hb
      have x0 := HWB.out.box.cell 0
      have x1 := HWB.out.box.cell 1
      have x2 := HWB.out.box.cell 2
      have x3 := HWB.out.box.cell 3
      have x4 := HWB.out.box.cell 4
      have x5 := HWB.out.box.cell 5
      have x6 := HWB.out.box.cell 6
      have y0 := HWB.out.yb.cell 0
      have y1 := HWB.out.yb.cell 1
      have y2 := HWB.out.yb.cell 2
      have y3 := HWB.out.yb.cell 3
      have y4 := HWB.out.yb.cell 4
      simp at x0 x1 x2 x3 x4 x5 x6 y0 y1 y2 y3 y4
      go_wp2_with fail
      refine (HA1.out _).mono ?_
      rintro e wc ⟨rfl, rfl⟩
      go_wp2_with fail
      refine (HA2.out _).mono ?_
      rintro e wd ⟨rfl, rfl⟩
      go_wp2
      go_ret2
      exact retII_of HN.out.1.symm HN.out.2.symm HWB.out.below
    rcases bool_cases (1000000000000 < yw) with s1 | s1
    · have HN := Lib.hid (HW3.out (by simp at s1; omega))
      clear HW3 HW4 HMT
      go_enter Try.func20, Try.ntmps20
      go_wp2_with fail
      refine (HVA.out _ HWB.out).mono ?_
      rintro e w1 ⟨rfl, hb⟩
      have HWB := Lib.hid (HWB.out.calc_ hb)
      clear hb
      have x0 := HWB.out.box.cell 0
      have x1 := HWB.out.box.cell 1
      have x2 := HWB.out.box.cell 2
      have x3 := HWB.out.box.cell 3
      have x4 := HWB.out.box.cell 4
      have x5 := HWB.out.box.cell 5
      have x6 := HWB.out.box.cell 6
      have y0 := HWB.out.yb.cell 0
      have y1 := HWB.out.yb.cell 1
      have y2 := HWB.out.yb.cell 2
      have y3 := HWB.out.yb.cell 3
      have y4 := HWB.out.yb.cell 4
      simp at x0 x1 x2 x3 x4 x5 x6 y0 y1 y2 y3 y4
      go_wp2_with fail
      refine (HA1.out _).mono ?_
      rintro e wc ⟨rfl, rfl⟩
      go_wp2_with fail
      refine (HA2.out _).mono ?_
      rintro e wd ⟨rfl, rfl⟩
      go_wp2
      go_ret2
      exact retII_of HN.out.1.symm HN.out.2.symm HWB.out.below
    have hrng : rngP inc yi yw := by simp at s0 s1; omega
    obtain ⟨hg1, hg2, hg3, hg4, hg5, hg6⟩ := hrng
    obtain ⟨hl1, hl2, hl3, hl4⟩ := hlim
    have hrng : rngP inc yi yw := ⟨hg1, hg2, hg3, hg4, hg5, hg6⟩
    have HW4 := Lib.hid (HW4.out hrng)
    clear HW3
    rw [HW4.out.1, HW4.out.2]
    clear HW4
    by_cases hm1 : t.m = 1
    · have HN := Lib.hid (HMT.out.1 hm1)
      have k1 : (t.m == 1) = true := by simpa using hm1
      clear HMT hm1
      go_enter Try.func20, Try.ntmps20
      go_wp2_with fail
      refine (HVA.out _ HWB.out).mono ?_
      rintro e w1 ⟨rfl, hb⟩
      have HWB := Lib.hid (HWB.out.calc_ hb)
      clear hb
      have x0 := HWB.out.box.cell 0
      have x1 := HWB.out.box.cell 1
      have x2 := HWB.out.box.cell 2
      have x3 := HWB.out.box.cell 3
      have x4 := HWB.out.box.cell 4
      have x5 := HWB.out.box.cell 5
      have x6 := HWB.out.box.cell 6
      have y0 := HWB.out.yb.cell 0
      have y1 := HWB.out.yb.cell 1
      have y2 := HWB.out.yb.cell 2
      have y3 := HWB.out.yb.cell 3
      have y4 := HWB.out.yb.cell 4
      simp at x0 x1 x2 x3 x4 x5 x6 y0 y1 y2 y3 y4
      go_wp2_with fail
      refine (HA1.out _).mono ?_
      rintro e wc ⟨rfl, rfl⟩
      go_wp2_with fail
      refine (HA2.out _).mono ?_
      rintro e wd ⟨rfl, rfl⟩
      go_wp2_with fail
      refine (HLK.out _ HWB.out).mono ?_
      rintro e w6 ⟨rfl, hb⟩
      have HWB := Lib.hid (HWB.out.calc_ hb)
      clear hb x0 x1 x2 x3 x4 x5 x6 y0 y1 y2 y3 y4
      go_wp2
      go_ret2
      exact retII_of HN.out.1.symm HN.out.2.symm HWB.out.below
    have k1 : (t.m == 1) = false := by simpa using hm1
    by_cases hm2 : t.m = 2
    · have HN := Lib.hid (HMT.out.2.1 hm2)
      have k2 : (t.m == 2) = true := by simpa using hm2
      clear HMT hm1 hm2
      go_enter Try.func20, Try.ntmps20
      go_wp2_with fail
      refine (HVA.out _ HWB.out).mono ?_
      rintro e w1 ⟨rfl, hb⟩
      have HWB := Lib.hid (HWB.out.calc_ hb)
      clear hb
      have x0 := HWB.out.box.cell 0
      have x1 := HWB.out.box.cell 1
      have x2 := HWB.out.box.cell 2
      have x3 := HWB.out.box.cell 3
      have x4 := HWB.out.box.cell 4
      have x5 := HWB.out.box.cell 5
      have x6 := HWB.out.box.cell 6
      have y0 := HWB.out.yb.cell 0
      have y1 := HWB.out.yb.cell 1
      have y2 := HWB.out.yb.cell 2
      have y3 := HWB.out.yb.cell 3
      have y4 := HWB.out.yb.cell 4
      simp at x0 x1 x2 x3 x4 x5 x6 y0 y1 y2 y3 y4
      go_wp2_with fail
      refine (HA1.out _).mono ?_
      rintro e wc ⟨rfl, rfl⟩
      go_wp2_with fail
      refine (HA2.out _).mono ?_
      rintro e wd ⟨rfl, rfl⟩
      go_wp2_with fail
      refine (HFR.out _ HWB.out).mono ?_
      rintro e w6 ⟨rfl, hb⟩
      have HWB := Lib.hid (HWB.out.calc_ hb)
      clear hb x0 x1 x2 x3 x4 x5 x6 y0 y1 y2 y3 y4
      go_wp2
      go_ret2
      exact retII_of HN.out.1.symm HN.out.2.symm HWB.out.below
    have k2 : (t.m == 2) = false := by simpa using hm2
    have HN := Lib.hid (HMT.out.2.2 hm1 hm2)
    clear HMT hm1 hm2
    go_enter Try.func20, Try.ntmps20
    go_wp2_with fail
    refine (HVA.out _ HWB.out).mono ?_
    rintro e w1 ⟨rfl, hb⟩
    have HWB := Lib.hid (HWB.out.calc_ hb)
    clear hb
    have x0 := HWB.out.box.cell 0
    have x1 := HWB.out.box.cell 1
    have x2 := HWB.out.box.cell 2
    have x3 := HWB.out.box.cell 3
    have x4 := HWB.out.box.cell 4
    have x5 := HWB.out.box.cell 5
    have x6 := HWB.out.box.cell 6
    have y0 := HWB.out.yb.cell 0
    have y1 := HWB.out.yb.cell 1
    have y2 := HWB.out.yb.cell 2
    have y3 := HWB.out.yb.cell 3
    have y4 := HWB.out.yb.cell 4
    simp at x0 x1 x2 x3 x4 x5 x6 y0 y1 y2 y3 y4
    go_wp2_with fail
    refine (HA1.out _).mono ?_
    rintro e wc ⟨rfl, rfl⟩
    go_wp2_with fail
    refine (HA2.out _).mono ?_
    rintro e wd ⟨rfl, rfl⟩
    go_wp2_with fail
    refine (HCU.out _ HWB.out).mono ?_
    rintro e w6 ⟨rfl, hb⟩
    have HWB := Lib.hid (HWB.out.calc_ hb)
    clear hb x0 x1 x2 x3 x4 x5 x6 y0 y1 y2 y3 y4
    go_wp2
    go_ret2
    exact retII_of HN.out.1.symm HN.out.2.symm HWB.out.below

end Go.Proofs.Ytcincmlpegnaiaa
