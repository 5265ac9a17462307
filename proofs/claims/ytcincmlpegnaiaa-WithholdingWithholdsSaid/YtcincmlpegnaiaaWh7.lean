/-
  Chapter 30: Cumulative of both packages.
-/
import Derived.Deep.RegionHeld3
import Derived.Test.YtcincmlpegnaiaaWh6b
namespace Go.Proofs.Ytcincmlpegnaiaa
open Go.RowKit
set_option linter.unusedVariables false
set_option linter.unusedSimpArgs false

set_option maxHeartbeats 1600000 in
theorem cumulative_any (t : TF) (L : TL) (B : Nat) (w : World) (hr : RdT w B L t) (hB : B ≤ w.heap.size) (c k tot wh : Int) : Calls Try.prog 23 #[.agg #[.int .i64 t.m, .slice L.Ab t.bk.length L.nb, .int .i64 t.al, .int .i64 t.cr, .int .i64 t.un, .int .i64 t.mo, .slice L.Ar t.rw.length L.nr], .int .i64 c, .int .i64 k, .int .i64 tot, .int .i64 wh] w (RetII (cumV t c k tot wh) (cumE t c k tot wh) w) := by
  have HD : Hid (∀ W, BX w #[.int .i64 t.m, .slice L.Ab t.bk.length L.nb, .int .i64 t.al, .int .i64 t.cr, .int .i64 t.un, .int .i64 t.mo, .slice L.Ar t.rw.length L.nr] W → Calls Try.prog 21 #[.agg #[.int .i64 t.m, .slice L.Ab t.bk.length L.nb, .int .i64 t.al, .int .i64 t.cr, .int .i64 t.un, .int .i64 t.mo, .slice L.Ar t.rw.length L.nr], .int .i64 c, .int .i64 k, .int .i64 tot] W (RetII (dueV t c k tot) (dueE t c k tot) W)) := Lib.hid (fun W h => due_any t L w.heap.size W ((hr.more hB).below h.below) h.below.size c k tot)
  have HBX := Lib.hid (BX.start w #[.int .i64 t.m, .slice L.Ab t.bk.length L.nb, .int .i64 t.al, .int .i64 t.cr, .int .i64 t.un, .int .i64 t.mo, .slice L.Ar t.rw.length L.nr])
  clear hr
  have HV : Hid (cumV t c k tot wh = if dueE t c k tot = 0 ∧ wtB wh = true then dueV t c k tot - wh else 0) := Lib.hid rfl
  have HE : Hid (cumE t c k tot wh = if dueE t c k tot = 0 then (if wtB wh = true then 0 else 2) else dueE t c k tot) := Lib.hid rfl
  have HBD : Hid (dueE t c k tot = 0 → 0 ≤ dueV t c k tot ∧ dueV t c k tot ≤ 2000000000000) := Lib.hid due_in
  have hw : wtB wh = true ↔ -1000000000000 ≤ wh ∧ wh ≤ 1000000000000 := by simp [wtB]
  have HIW : Hid (∀ W, Calls Try.prog 42 #[.int .i64 wh] W (RetQ (wtB wh) W)) := Lib.hid (fun W => isWithheld_any wh W)
  generalize dueV t c k tot = v at *
  generalize dueE t c k tot = er at *
  generalize wtB wh = wb at *
  by_cases h0 : er = 0
  rotate_left
  · have t0 : (er != 0) = true := by simpa using h0
    have HN : Hid (cumV t c k tot wh = 0 ∧ cumE t c k tot wh = er) := Lib.hid ⟨by rw [HV.out, if_neg (fun h => h0 h.1)], by rw [HE.out, if_neg h0]⟩
    clear h0 HV HE HBD hw
    go_enter Try.func23, Try.ntmps23
    go_wp2_with fail
    refine (HD.out _ HBX.out).mono ?_
    rintro e w1 ⟨rfl, hb⟩
    have HBX := Lib.hid (HBX.out.calc_ hb)
    clear hb
    go_wp2
    go_ret2
    exact retII_of HN.out.1.symm HN.out.2.symm HBX.out.below
  · subst h0
    obtain ⟨hv0, hv1⟩ := HBD.out rfl
    clear HBD
    cases wb
    · have HN : Hid (cumV t c k tot wh = 0 ∧ cumE t c k tot wh = 2) := Lib.hid ⟨by rw [HV.out]; simp, by rw [HE.out]; simp⟩
      have hw2 : ¬ (-1000000000000 ≤ wh ∧ wh ≤ 1000000000000) := fun h => by have := hw.2 h; cases this
      clear HV HE hw
      go_enter Try.func23, Try.ntmps23
      go_wp2_with fail
      refine (HD.out _ HBX.out).mono ?_
      rintro e w1 ⟨rfl, hb⟩
      have HBX := Lib.hid (HBX.out.calc_ hb)
      clear hb
      go_wp2_with fail
      refine (HIW.out _).mono ?_
      rintro e wc ⟨rfl, rfl⟩
      go_wp2
      go_ret2
      exact retII_of HN.out.1.symm HN.out.2.symm HBX.out.below
    · have HN : Hid (cumV t c k tot wh = v - wh ∧ cumE t c k tot wh = 0) := Lib.hid ⟨by rw [HV.out]; simp, by rw [HE.out]; simp⟩
      obtain ⟨hw1, hw2⟩ := hw.1 rfl
      clear HV HE hw
      go_enter Try.func23, Try.ntmps23
      go_wp2_with fail
      refine (HD.out _ HBX.out).mono ?_
      rintro e w1 ⟨rfl, hb⟩
      have HBX := Lib.hid (HBX.out.calc_ hb)
      clear hb
      go_wp2_with fail
      refine (HIW.out _).mono ?_
      rintro e wc ⟨rfl, rfl⟩
      go_wp2
      go_ret2
      exact retII_of HN.out.1.symm HN.out.2.symm HBX.out.below
set_option maxHeartbeats 1600000 in
theorem rcumulative_any (t : TF) (L : TL) (B : Nat) (w : World) (hr : RdT w B L t) (hB : B ≤ w.heap.size) (c k tot wh : Int) : Calls Try.prog 24 #[.agg #[.int .i64 t.m, .slice L.Ab t.bk.length L.nb, .int .i64 t.al, .int .i64 t.cr, .int .i64 t.un, .int .i64 t.mo, .slice L.Ar t.rw.length L.nr], .int .i64 c, .int .i64 k, .int .i64 tot, .int .i64 wh] w (RetII (cumV t c k tot wh) (cumE t c k tot wh) w) := by
  have HD : Hid (∀ W, BX w #[.int .i64 t.m, .slice L.Ab t.bk.length L.nb, .int .i64 t.al, .int .i64 t.cr, .int .i64 t.un, .int .i64 t.mo, .slice L.Ar t.rw.length L.nr] W → Calls Try.prog 22 #[.agg #[.int .i64 t.m, .slice L.Ab t.bk.length L.nb, .int .i64 t.al, .int .i64 t.cr, .int .i64 t.un, .int .i64 t.mo, .slice L.Ar t.rw.length L.nr], .int .i64 c, .int .i64 k, .int .i64 tot] W (RetII (dueV t c k tot) (dueE t c k tot) W)) := Lib.hid (fun W h => rdue_any t L w.heap.size W ((hr.more hB).below h.below) h.below.size c k tot)
  have HBX := Lib.hid (BX.start w #[.int .i64 t.m, .slice L.Ab t.bk.length L.nb, .int .i64 t.al, .int .i64 t.cr, .int .i64 t.un, .int .i64 t.mo, .slice L.Ar t.rw.length L.nr])
  clear hr
  have HV : Hid (cumV t c k tot wh = if dueE t c k tot = 0 ∧ wtB wh = true then dueV t c k tot - wh else 0) := Lib.hid rfl
  have HE : Hid (cumE t c k tot wh = if dueE t c k tot = 0 then (if wtB wh = true then 0 else 2) else dueE t c k tot) := Lib.hid rfl
  have HBD : Hid (dueE t c k tot = 0 → 0 ≤ dueV t c k tot ∧ dueV t c k tot ≤ 2000000000000) := Lib.hid due_in
  have hw : wtB wh = true ↔ -1000000000000 ≤ wh ∧ wh ≤ 1000000000000 := by simp [wtB]
  generalize dueV t c k tot = v at *
  generalize dueE t c k tot = er at *
  generalize wtB wh = wb at *
  by_cases h0 : er = 0
  rotate_left
  · have t0 : (er != 0) = true := by simpa using h0
    have HN : Hid (cumV t c k tot wh = 0 ∧ cumE t c k tot wh = er) := Lib.hid ⟨by rw [HV.out, if_neg (fun h => h0 h.1)], by rw [HE.out, if_neg h0]⟩
    clear h0 HV HE HBD hw
    go_enter Try.func24, Try.ntmps24
    go_wp2_with fail
    refine (HD.out _ HBX.out).mono ?_
    rintro e w1 ⟨rfl, hb⟩
    have HBX := Lib.hid (HBX.out.calc_ hb)
    clear hb
    go_wp2
    go_ret2
    exact retII_of HN.out.1.symm HN.out.2.symm HBX.out.below
  · subst h0
    obtain ⟨hv0, hv1⟩ := HBD.out rfl
    clear HBD
    cases wb
    · have HN : Hid (cumV t c k tot wh = 0 ∧ cumE t c k tot wh = 2) := Lib.hid ⟨by rw [HV.out]; simp, by rw [HE.out]; simp⟩
      have hw2 : ¬ (-1000000000000 ≤ wh ∧ wh ≤ 1000000000000) := fun h => by have := hw.2 h; cases this
      clear HV HE hw
      rcases bool_cases (wh < -1000000000000) with t1 | t1
      · go_enter Try.func24, Try.ntmps24
        go_wp2_with fail
        refine (HD.out _ HBX.out).mono ?_
        rintro e w1 ⟨rfl, hb⟩
        have HBX := Lib.hid (HBX.out.calc_ hb)
        clear hb
        go_wp2
        go_ret2
        exact retII_of HN.out.1.symm HN.out.2.symm HBX.out.below
      · have t2 : decide (1000000000000 < wh) = true := by simp at t1; simp; omega
        go_enter Try.func24, Try.ntmps24
        go_wp2_with fail
        refine (HD.out _ HBX.out).mono ?_
        rintro e w1 ⟨rfl, hb⟩
        have HBX := Lib.hid (HBX.out.calc_ hb)
        clear hb
        go_wp2
        go_ret2
        exact retII_of HN.out.1.symm HN.out.2.symm HBX.out.below
    · have HN : Hid (cumV t c k tot wh = v - wh ∧ cumE t c k tot wh = 0) := Lib.hid ⟨by rw [HV.out]; simp, by rw [HE.out]; simp⟩
      obtain ⟨hw1, hw2⟩ := hw.1 rfl
      clear HV HE hw
      have t1 : decide (wh < -1000000000000) = false := by simp; omega
      have t2 : decide (1000000000000 < wh) = false := by simp; omega
      go_enter Try.func24, Try.ntmps24
      go_wp2_with fail
      refine (HD.out _ HBX.out).mono ?_
      rintro e w1 ⟨rfl, hb⟩
      have HBX := Lib.hid (HBX.out.calc_ hb)
      clear hb
      go_wp2
      go_ret2
      exact retII_of HN.out.1.symm HN.out.2.symm HBX.out.below

end Go.Proofs.Ytcincmlpegnaiaa
