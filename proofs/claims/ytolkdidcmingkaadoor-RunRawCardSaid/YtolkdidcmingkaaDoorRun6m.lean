/-
  Chapter 40: run.Step, in parts.
-/
import Derived.Test.YtolkdidcmingkaaDoorRun6k1
import Derived.Test.YtolkdidcmingkaaDoorRun6k2
import Derived.Test.YtolkdidcmingkaaDoorRun6k3
import Derived.Test.YtolkdidcmingkaaDoorRun6k4
import Derived.Test.YtolkdidcmingkaaDoorRun6k5
import Derived.Test.YtolkdidcmingkaaDoorRun6k6
namespace Go.Proofs.YtolkdidcmingkaaDoor
open Go.RowKit
set_option linter.unusedVariables false
set_option linter.unusedSimpArgs false

theorem step_disp (s : Int) (A : Option Addr) (c : Nat) (E : List Int) (c0 c1 c2 k : Int) (Q : Option Addr) (q : Nat) (F : List Int) (d0 d1 d2 : Int) (w : World) (hT : Tab w) (hr : RdI w w.heap.size A E) (hl : E.length ≤ 100000) (hq : RdI w w.heap.size Q F) (hlq : F.length ≤ 100000) (hv : validB s E (c0, c1, c2) = true) (hf : formB k F.length (eqC (d0, d1, d2) (0, 0, 0)) = true) (hm : mayB s k = true) :
    Calls Tryd.prog 10 #[.agg #[.int .i64 s, .slice A E.length c, .int .i64 c0, .int .i64 c1, .int .i64 c2], .agg #[.int .i64 k, .slice Q F.length q, .int .i64 d0, .int .i64 d1, .int .i64 d2]] w (StepPost s E (c0, c1, c2) k F (d0, d1, d2) w) := by
  have hk : k = 1 ∨ k = 2 ∨ k = 3 ∨ k = 4 ∨ k = 5 ∨ k = 6 := by
    by_cases h : k = 1 ∨ k = 2 ∨ k = 3 ∨ k = 4 ∨ k = 5 ∨ k = 6
    · exact h
    · have : mayB s k = false := by simp only [not_or] at h; simp [mayB, h.1, h.2.1, h.2.2.1, h.2.2.2.1, h.2.2.2.2.1, h.2.2.2.2.2]
      rw [this] at hm; cases hm
  rcases hk with rfl | rfl | rfl | rfl | rfl | rfl
  · exact step_k1 s A c E c0 c1 c2 Q q F d0 d1 d2 w hT hr hl hq hlq hv hf hm
  · exact step_k2 s A c E c0 c1 c2 Q q F d0 d1 d2 w hT hr hl hq hlq hv hf hm
  · exact step_k3 s A c E c0 c1 c2 Q q F d0 d1 d2 w hT hr hl hq hlq hv hf hm
  · exact step_k4 s A c E c0 c1 c2 Q q F d0 d1 d2 w hT hr hl hq hlq hv hf hm
  · exact step_k5 s A c E c0 c1 c2 Q q F d0 d1 d2 w hT hr hl hq hlq hv hf hm
  · exact step_k6 s A c E c0 c1 c2 Q q F d0 d1 d2 w hT hr hl hq hlq hv hf hm
set_option maxHeartbeats 3200000 in
theorem step_any (s : Int) (A : Option Addr) (c : Nat) (E : List Int) (c0 c1 c2 k : Int) (Q : Option Addr) (q : Nat) (F : List Int) (d0 d1 d2 : Int) (w : World) (hT : Tab w) (hr : RdI w w.heap.size A E) (hl : E.length ≤ 100000) (hq : RdI w w.heap.size Q F) (hlq : F.length ≤ 100000) :
    Calls Tryd.prog 10 #[.agg #[.int .i64 s, .slice A E.length c, .int .i64 c0, .int .i64 c1, .int .i64 c2], .agg #[.int .i64 k, .slice Q F.length q, .int .i64 d0, .int .i64 d1, .int .i64 d2]] w (StepPost s E (c0, c1, c2) k F (d0, d1, d2) w) := by
  have HV : Hid (∀ W, SB w #[.int .i64 s, .slice A E.length c, .int .i64 c0, .int .i64 c1, .int .i64 c2] #[.int .i64 k, .slice Q F.length q, .int .i64 d0, .int .i64 d1, .int .i64 d2] W → Calls Tryd.prog 11 #[.agg #[.int .i64 s, .slice A E.length c, .int .i64 c0, .int .i64 c1, .int .i64 c2]] W (RetB (validB s E (c0, c1, c2)) W)) := Lib.hid (fun W h => rvalid_any s A c _ E c0 c1 c2 W (hr.below h.below) h.below.size (by omega))
  have HFm : Hid (∀ W, SB w #[.int .i64 s, .slice A E.length c, .int .i64 c0, .int .i64 c1, .int .i64 c2] #[.int .i64 k, .slice Q F.length q, .int .i64 d0, .int .i64 d1, .int .i64 d2] W → Calls Tryd.prog 23 #[.agg #[.int .i64 k, .slice Q F.length q, .int .i64 d0, .int .i64 d1, .int .i64 d2]] W (RetB (formB k F.length (eqC (d0, d1, d2) (0, 0, 0))) W)) := Lib.hid (fun W h => formed_any k Q F.length q d0 d1 d2 W (by omega))
  have HTg : Hid (∀ W, SB w #[.int .i64 s, .slice A E.length c, .int .i64 c0, .int .i64 c1, .int .i64 c2] #[.int .i64 k, .slice Q F.length q, .int .i64 d0, .int .i64 d1, .int .i64 d2] W → Calls Tryd.prog 24 #[.int .i64 s, .int .i64 k] W (RetIB (tgV s k) (mayB s k) W)) := Lib.hid (fun W h => target_any s k W (hT.below h.below hT.lt))
  have HAF : Hid (∀ W, SB w #[.int .i64 s, .slice A E.length c, .int .i64 c0, .int .i64 c1, .int .i64 c2] #[.int .i64 k, .slice Q F.length q, .int .i64 d0, .int .i64 d1, .int .i64 d2] W → Calls Tryd.prog 25 #[.slice Q F.length q] W (RetB (ascB F) W)) := Lib.hid (fun W h => ascending_any Q q _ F W (hq.below h.below) h.below.size (by omega))
  have HFt : Hid (∀ W, SB w #[.int .i64 s, .slice A E.length c, .int .i64 c0, .int .i64 c1, .int .i64 c2] #[.int .i64 k, .slice Q F.length q, .int .i64 d0, .int .i64 d1, .int .i64 d2] W → Calls Tryd.prog 26 #[.agg #[.int .i64 d0, .int .i64 d1, .int .i64 d2], .int .i64 (E.length : Int)] W (RetB (fitsB (d0, d1, d2) E.length) W)) := Lib.hid (fun W h => fits_any d0 d1 d2 E.length W)
  have HCE : Hid (∀ W, SB w #[.int .i64 s, .slice A E.length c, .int .i64 c0, .int .i64 c1, .int .i64 c2] #[.int .i64 k, .slice Q F.length q, .int .i64 d0, .int .i64 d1, .int .i64 d2] W → Calls Tryd.prog 27 #[.slice A E.length c] W (ClonePost E W)) := Lib.hid (fun W h => clone_any A c E W (Rd.more (hr.below h.below) h.below.size) hl)
  have HCF : Hid (∀ W, SB w #[.int .i64 s, .slice A E.length c, .int .i64 c0, .int .i64 c1, .int .i64 c2] #[.int .i64 k, .slice Q F.length q, .int .i64 d0, .int .i64 d1, .int .i64 d2] W → Calls Tryd.prog 27 #[.slice Q F.length q] W (ClonePost F W)) := Lib.hid (fun W h => clone_any Q q F W (Rd.more (hq.below h.below) h.below.size) hlq)
  have HS := Lib.hid (SB.start w #[.int .i64 s, .slice A E.length c, .int .i64 c0, .int .i64 c1, .int .i64 c2] #[.int .i64 k, .slice Q F.length q, .int .i64 d0, .int .i64 d1, .int .i64 d2])
  have hce := run_eqC d0 d1 d2 c0 c1 c2
  have HE : Hid (stE s E (c0, c1, c2) k F (d0, d1, d2) = if validB s E (c0, c1, c2) && formB k F.length (eqC (d0, d1, d2) (0, 0, 0)) then (if mayB s k then (if (k : Int) = 1 then (if ascB F then 0 else 2) else if (k : Int) = 2 then (if fitsB (d0, d1, d2) E.length then 0 else 2) else if (k : Int) = 3 ∨ (k : Int) = 4 then (if eqC (d0, d1, d2) (c0, c1, c2) then 0 else 17) else 0) else 15) else 1) := Lib.hid rfl
  have hEl : (E.length : Int) ≤ 100000 := by omega
  have hdisp := fun (hv : validB s E (c0, c1, c2) = true) (hf : formB k F.length (eqC (d0, d1, d2) (0, 0, 0)) = true) (hm : mayB s k = true) => step_disp s A c E c0 c1 c2 k Q q F d0 d1 d2 w hT hr hl hq hlq hv hf hm
  have HDI := Lib.hid hdisp
  clear hdisp hr hq hT
  generalize validB s E (c0, c1, c2) = vb at *
  generalize formB k F.length (eqC (d0, d1, d2) (0, 0, 0)) = fb at *
  cases vb
  · have HN : Hid (stE s E (c0, c1, c2) k F (d0, d1, d2) = 1) := Lib.hid (by rw [HE.out]; rfl)
    clear HE
    go_enter Tryd.func10, Tryd.ntmps10
    go_wp2_with fail
    refine (HV.out _ HS.out).mono ?_
    rintro e w1 ⟨rfl, hb⟩
    have HS := Lib.hid (HS.out.calc_ hb)
    clear hb
    have r0 := HS.out.b2.cell 0
    have r1 := HS.out.b2.cell 1
    have r2 := HS.out.b2.cell 2
    have r3 := HS.out.b2.cell 3
    have r4 := HS.out.b2.cell 4
    have rf0 := HS.out.b2.frozen 0
    have rf1 := HS.out.b2.frozen 1
    have rf2 := HS.out.b2.frozen 2
    have rf3 := HS.out.b2.frozen 3
    have rf4 := HS.out.b2.frozen 4
    simp at r0 r1 r2 r3 r4
    go_wp2
    exact bodyPost_ret (v := .tuple #[.agg #[.int .i64 0, .slice none 0 0, .int .i64 0, .int .i64 0, .int .i64 0], .int .i64 1]) (by simp [results, Tryd.results10, go_sem, r0, r1, r2, r3, r4]) rfl (step_err HN.out (by omega) (below_only HS.out.below (put5_only _ (w.heap.size + 2) (.int .i64 0) (.slice none 0 0) (.int .i64 0) (.int .i64 0) (.int .i64 0)) (by omega)))
  · cases fb
    · have HN : Hid (stE s E (c0, c1, c2) k F (d0, d1, d2) = 1) := Lib.hid (by rw [HE.out]; rfl)
      clear HE
      go_enter Tryd.func10, Tryd.ntmps10
      go_wp2_with fail
      refine (HV.out _ HS.out).mono ?_
      rintro e w1 ⟨rfl, hb⟩
      have HS := Lib.hid (HS.out.calc_ hb)
      clear hb
      have y0 := HS.out.b1.cell 0
      have y1 := HS.out.b1.cell 1
      have y2 := HS.out.b1.cell 2
      have y3 := HS.out.b1.cell 3
      have y4 := HS.out.b1.cell 4
      simp at y0 y1 y2 y3 y4
      go_wp2_with fail
      refine (HFm.out _ HS.out).mono ?_
      rintro e w2 ⟨rfl, hb⟩
      have HS := Lib.hid (HS.out.calc_ hb)
      clear hb
      clear y0 y1 y2 y3 y4
      have r0 := HS.out.b2.cell 0
      have r1 := HS.out.b2.cell 1
      have r2 := HS.out.b2.cell 2
      have r3 := HS.out.b2.cell 3
      have r4 := HS.out.b2.cell 4
      have rf0 := HS.out.b2.frozen 0
      have rf1 := HS.out.b2.frozen 1
      have rf2 := HS.out.b2.frozen 2
      have rf3 := HS.out.b2.frozen 3
      have rf4 := HS.out.b2.frozen 4
      simp at r0 r1 r2 r3 r4
      go_wp2
      exact bodyPost_ret (v := .tuple #[.agg #[.int .i64 0, .slice none 0 0, .int .i64 0, .int .i64 0, .int .i64 0], .int .i64 1]) (by simp [results, Tryd.results10, go_sem, r0, r1, r2, r3, r4]) rfl (step_err HN.out (by omega) (below_only HS.out.below (put5_only _ (w.heap.size + 2) (.int .i64 0) (.slice none 0 0) (.int .i64 0) (.int .i64 0) (.int .i64 0)) (by omega)))
    · by_cases hm : mayB s k = true
      rotate_left
      · have hmf : mayB s k = false := by simpa using hm
        have HN : Hid (stE s E (c0, c1, c2) k F (d0, d1, d2) = 15) := Lib.hid (by rw [HE.out, hmf]; rfl)
        have htv : tgV s k = 0 := by unfold tgV; rw [hmf]; rfl
        rw [hmf, htv] at HTg
        clear HE hm hmf htv
        go_enter Tryd.func10, Tryd.ntmps10
        go_wp2_with fail
        refine (HV.out _ HS.out).mono ?_
        rintro e w1 ⟨rfl, hb⟩
        have HS := Lib.hid (HS.out.calc_ hb)
        clear hb
        have y0 := HS.out.b1.cell 0
        have y1 := HS.out.b1.cell 1
        have y2 := HS.out.b1.cell 2
        have y3 := HS.out.b1.cell 3
        have y4 := HS.out.b1.cell 4
        simp at y0 y1 y2 y3 y4
        go_wp2_with fail
        refine (HFm.out _ HS.out).mono ?_
        rintro e w2 ⟨rfl, hb⟩
        have HS := Lib.hid (HS.out.calc_ hb)
        clear hb
        clear y0 y1 y2 y3 y4
        have x0 := HS.out.b0.cell 0
        have x1 := HS.out.b0.cell 1
        have x2 := HS.out.b0.cell 2
        have x3 := HS.out.b0.cell 3
        have x4 := HS.out.b0.cell 4
        have y0 := HS.out.b1.cell 0
        have y1 := HS.out.b1.cell 1
        have y2 := HS.out.b1.cell 2
        have y3 := HS.out.b1.cell 3
        have y4 := HS.out.b1.cell 4
        simp at x0 x1 x2 x3 x4 y0 y1 y2 y3 y4
        go_wp2_with fail
        refine (HTg.out _ HS.out).mono ?_
        rintro e w3 ⟨rfl, hb⟩
        have HS := Lib.hid (HS.out.calc_ hb)
        clear hb
        clear x0 x1 x2 x3 x4 y0 y1 y2 y3 y4
        have r0 := HS.out.b2.cell 0
        have r1 := HS.out.b2.cell 1
        have r2 := HS.out.b2.cell 2
        have r3 := HS.out.b2.cell 3
        have r4 := HS.out.b2.cell 4
        have rf0 := HS.out.b2.frozen 0
        have rf1 := HS.out.b2.frozen 1
        have rf2 := HS.out.b2.frozen 2
        have rf3 := HS.out.b2.frozen 3
        have rf4 := HS.out.b2.frozen 4
        simp at r0 r1 r2 r3 r4
        go_wp2
        exact bodyPost_ret (v := .tuple #[.agg #[.int .i64 0, .slice none 0 0, .int .i64 0, .int .i64 0, .int .i64 0], .int .i64 15]) (by simp [results, Tryd.results10, go_sem, r0, r1, r2, r3, r4]) rfl (step_err HN.out (by omega) (below_only HS.out.below (put5_only _ (w.heap.size + 2) (.int .i64 0) (.slice none 0 0) (.int .i64 0) (.int .i64 0) (.int .i64 0)) (by omega)))
      · exact HDI.out rfl rfl hm
end Go.Proofs.YtolkdidcmingkaaDoor
