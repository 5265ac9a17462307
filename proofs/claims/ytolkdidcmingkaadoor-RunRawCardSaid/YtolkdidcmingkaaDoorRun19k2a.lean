/-
  Chapter 40: the reference's Step, in parts.
-/
import Derived.Test.YtolkdidcmingkaaDoorRun18
namespace Go.Proofs.YtolkdidcmingkaaDoor
open Go.RowKit
set_option linter.unusedVariables false
set_option linter.unusedSimpArgs false

set_option maxRecDepth 100000 in
set_option maxHeartbeats 3200000 in
theorem rstep_k2a (s : Int) (A : Option Addr) (c : Nat) (E : List Int) (c0 c1 c2 : Int) (Q : Option Addr) (q : Nat) (F : List Int) (d0 d1 d2 : Int) (w : World) (hr : RdI w w.heap.size A E) (hl : E.length ≤ 100000) (hq : RdI w w.heap.size Q F) (hlq : F.length ≤ 100000) (hv : validB s E (c0, c1, c2) = true) (hf : formB 2 F.length (eqC (d0, d1, d2) (0, 0, 0)) = true) (hm : mayB s 2 = true) (hc : ctlB (d0, d1, d2) = false) :
    Calls Tryd.prog 17 #[.agg #[.int .i64 s, .slice A E.length c, .int .i64 c0, .int .i64 c1, .int .i64 c2], .agg #[.int .i64 2, .slice Q F.length q, .int .i64 d0, .int .i64 d1, .int .i64 d2]] w (StepPost s E (c0, c1, c2) 2 F (d0, d1, d2) w) := by
  have HV : Hid (∀ W, SB w #[.int .i64 s, .slice A E.length c, .int .i64 c0, .int .i64 c1, .int .i64 c2] #[.int .i64 2, .slice Q F.length q, .int .i64 d0, .int .i64 d1, .int .i64 d2] W → Calls Tryd.prog 22 #[.agg #[.int .i64 s, .slice A E.length c, .int .i64 c0, .int .i64 c1, .int .i64 c2]] W (RetB (validB s E (c0, c1, c2)) W)) := Lib.hid (fun W h => refValid_any s A c _ E c0 c1 c2 W (hr.below h.below) h.below.size (by omega))
  have HFm : Hid (∀ W, SB w #[.int .i64 s, .slice A E.length c, .int .i64 c0, .int .i64 c1, .int .i64 c2] #[.int .i64 2, .slice Q F.length q, .int .i64 d0, .int .i64 d1, .int .i64 d2] W → Calls Tryd.prog 31 #[.agg #[.int .i64 2, .slice Q F.length q, .int .i64 d0, .int .i64 d1, .int .i64 d2]] W (RetB (formB 2 F.length (eqC (d0, d1, d2) (0, 0, 0))) W)) := Lib.hid (fun W h => form_any 2 Q F.length q d0 d1 d2 W (by omega))
  have HTg : Hid (∀ W, SB w #[.int .i64 s, .slice A E.length c, .int .i64 c0, .int .i64 c1, .int .i64 c2] #[.int .i64 2, .slice Q F.length q, .int .i64 d0, .int .i64 d1, .int .i64 d2] W → Calls Tryd.prog 32 #[.int .i64 s, .int .i64 2] W (RetB0 (mayB s 2) W)) := Lib.hid (fun W h => may_any s 2 W)
  have HAF : Hid (∀ W, SB w #[.int .i64 s, .slice A E.length c, .int .i64 c0, .int .i64 c1, .int .i64 c2] #[.int .i64 2, .slice Q F.length q, .int .i64 d0, .int .i64 d1, .int .i64 d2] W → Calls Tryd.prog 33 #[.slice Q F.length q] W (RetB (ascB F) W)) := Lib.hid (fun W h => employees_any Q q _ F W (hq.below h.below) h.below.size (by omega))
  have HRE : Hid (∀ W, SB w #[.int .i64 s, .slice A E.length c, .int .i64 c0, .int .i64 c1, .int .i64 c2] #[.int .i64 2, .slice Q F.length q, .int .i64 d0, .int .i64 d1, .int .i64 d2] W → RdI W W.heap.size A E) := Lib.hid (fun W h => Rd.more (hr.below h.below) h.below.size)
  have HRF : Hid (∀ W, SB w #[.int .i64 s, .slice A E.length c, .int .i64 c0, .int .i64 c1, .int .i64 c2] #[.int .i64 2, .slice Q F.length q, .int .i64 d0, .int .i64 d1, .int .i64 d2] W → RdI W W.heap.size Q F) := Lib.hid (fun W h => Rd.more (hq.below h.below) h.below.size)
  have HS := Lib.hid (SB.start w #[.int .i64 s, .slice A E.length c, .int .i64 c0, .int .i64 c1, .int .i64 c2] #[.int .i64 2, .slice Q F.length q, .int .i64 d0, .int .i64 d1, .int .i64 d2])
  have hce := run_eqC d0 d1 d2 c0 c1 c2
  have HE : Hid (stE s E (c0, c1, c2) 2 F (d0, d1, d2) = if validB s E (c0, c1, c2) && formB 2 F.length (eqC (d0, d1, d2) (0, 0, 0)) then (if mayB s 2 then (if (2 : Int) = 1 then (if ascB F then 0 else 2) else if (2 : Int) = 2 then (if fitsB (d0, d1, d2) E.length then 0 else 2) else if (2 : Int) = 3 ∨ (2 : Int) = 4 then (if eqC (d0, d1, d2) (c0, c1, c2) then 0 else 17) else 0) else 15) else 1) := Lib.hid rfl
  have hEl : (E.length : Int) ≤ 100000 := by omega
  obtain ⟨i0, hi, hz0, hz1, hz2⟩ := info_parts infoI
  rw [hm] at HTg
  rw [hv] at HV
  rw [hf] at HFm
  have HE2 : Hid (stE s E (c0, c1, c2) 2 F (d0, d1, d2) = (if fitsB (d0, d1, d2) E.length then 0 else 2)) := Lib.hid (by rw [HE.out, hv, hf, hm]; rfl)
  have HVC : Hid (∀ W, Calls Tryd.prog 34 #[.agg #[.int .i64 d0, .int .i64 d1, .int .i64 d2]] W (RetB (ctlB (d0, d1, d2)) W)) := Lib.hid (fun W => rvalidC d0 d1 d2 W)
  have HFB : Hid (fitsB (d0, d1, d2) E.length = (ctlB (d0, d1, d2) && decide (d0 ≤ E.length))) := Lib.hid rfl
  rw [hc] at HVC HFB
  have HN : Hid (stE s E (c0, c1, c2) 2 F (d0, d1, d2) = 2) := Lib.hid (by rw [HE2.out, HFB.out]; rfl)
  clear hr hq hv hf hm HE hce HAF HRF HE2 HFB hc
  go_enter Tryd.func17, Tryd.ntmps17
  go_wp2_with fail
  refine (HV.out _ HS.out).mono ?_
  rintro e w1 ⟨rfl, hb⟩
  have HS := Lib.hid (HS.out.calc_ hb)
  clear hb
  have y0 := HS.out.b1.cell 0
  have y1 := HS.out.b1.cell 1
  have y2 := HS.out.b1.cell 2
  have y3 := HS.out.b1.cell 3
  have y4 := HS.out.b1.cell 4
  simp at y0 y1 y2 y3 y4
  go_wp2_with fail
  refine (HFm.out _ HS.out).mono ?_
  rintro e w2 ⟨rfl, hb⟩
  have HS := Lib.hid (HS.out.calc_ hb)
  clear hb
  clear y0 y1 y2 y3 y4
  have x0 := HS.out.b0.cell 0
  have x1 := HS.out.b0.cell 1
  have x2 := HS.out.b0.cell 2
  have x3 := HS.out.b0.cell 3
  have x4 := HS.out.b0.cell 4
  have y0 := HS.out.b1.cell 0
  have y1 := HS.out.b1.cell 1
  have y2 := HS.out.b1.cell 2
  have y3 := HS.out.b1.cell 3
  have y4 := HS.out.b1.cell 4
  simp at x0 x1 x2 x3 x4 y0 y1 y2 y3 y4
  go_wp2_with fail
  refine (HTg.out _ HS.out).mono ?_
  rintro e w3 ⟨rfl, rfl⟩
  have hlt3 := HS.out.b2.lt
  have h30 : w.heap.size < w2.heap.size := by omega
  have hn1 : ¬ w.heap.size = w2.heap.size := by omega
  have hn2 : ¬ w2.heap.size = w.heap.size := by omega
  have hn3 : ¬ w.heap.size = w2.heap.size + 1 := by omega
  have hn4 : ¬ w2.heap.size + 1 = w.heap.size := by omega
  have HOE1 : Hid (OwnE (w2.alloc (.cells #[] 3)) w2.heap.size) := Lib.hid (ownE_new w2)
  have HOE2 : Hid (∀ o, OwnE ((w2.alloc (.cells #[] 3)).alloc o) w2.heap.size) := Lib.hid (fun o => (ownE_new w2).alloc o)
  have HOE3 : Hid (∀ o, OwnE ((w2.alloc o).alloc (.cells #[] 3)) (w2.heap.size + 1)) := Lib.hid (ownE_old w2)
  go_upto_region 5 with (fail)
  go_cut [6] (fun a6 wx => CP w #[.int .i64 s, .slice A E.length c, .int .i64 c0, .int .i64 c1, .int .i64 c2] #[.int .i64 2, .slice Q F.length q, .int .i64 d0, .int .i64 d1, .int .i64 d2] s E c0 c1 c2 a6 wx)
  case first =>
    go_region_held3 (fun W => W.cell? ⟨w.heap.size, 0, none⟩ = some (.int .i64 s) ∧ W.cell? ⟨w.heap.size, 1, none⟩ = some (.slice A E.length c) ∧ W.cell? ⟨w.heap.size, 2, none⟩ = some (.int .i64 c0) ∧ W.cell? ⟨w.heap.size, 3, none⟩ = some (.int .i64 c1) ∧ W.cell? ⟨w.heap.size, 4, none⟩ = some (.int .i64 c2)) (go_keep)
      (first | (refine step_append_cp _ rfl _ _ 23 rfl i0 _ Tryd.underlying23 hi hz0 hz1 hz2 rfl _ rfl A E c rfl hl ?_ ?_ ?_; (first | exact HOE1.out | exact HOE2.out _ | exact HOE3.out _); (refine HRE.out _ ?_; (repeat (first | exact HS.out | apply SB.alloc | apply SB.drew))); intro A6 n6 w6 hr6 ho6 hf6; have HR6 := Lib.hid hr6; have HO6 := Lib.hid ho6; have HF6 := Lib.hid hf6; (have hs6 : SB w #[.int .i64 s, .slice A E.length c, .int .i64 c0, .int .i64 c1, .int .i64 c2] #[.int .i64 2, .slice Q F.length q, .int .i64 d0, .int .i64 d1, .int .i64 d2] w6 := (by refine SB.only ?_ ho6 ?_; (repeat (first | exact HS.out | apply SB.alloc | apply SB.drew)); omega)); have HS6 := Lib.hid hs6; have y0 := hs6.b0.cell 0; have y1 := hs6.b0.cell 1; have y2 := hs6.b0.cell 2; have y3 := hs6.b0.cell 3; have y4 := hs6.b0.cell 4; (simp at y0 y1 y2 y3 y4); (first | (with_reducible have HMB := bo1 ho6) | (with_reducible have HMB := bo2 ho6) | (with_reducible have HMB := bo1' ho6) | (with_reducible have HMB := bo2' ho6) | skip); (try (have m0 := HMB.cell 0; have m1 := HMB.cell 1; have m2 := HMB.cell 2; have m3 := HMB.cell 3; have m4 := HMB.cell 4; have mf0 := HMB.frozen 0; have mf1 := HMB.frozen 1; have mf2 := HMB.frozen 2; have mf3 := HMB.frozen 3; have mf4 := HMB.frozen 4; (simp at m0 m1 m2 m3 m4); have HMH := Lib.hid HMB; clear HMB)); clear hr6 ho6 hf6 hs6))
    all_goals go_wp2_with fail
    all_goals go_meet
    · exact cp_new HS6.out HR6.out HF6.out hlt3 (by simp) rfl
    · exact cp_old HS6.out HR6.out HF6.out hlt3 (by simp <;> omega) HMH.out (by omega) (by omega) (by simp <;> omega)
    · exact cp_old HS6.out HR6.out HF6.out (by omega) (by simp <;> omega) HMH.out hlt3 (by omega) (by simp <;> omega)
  case rest =>
    obtain ⟨mb, A5, n5, rfl, hx, hr5, hf5⟩ := hcut
    have HX := Lib.hid hx
    have HR5 := Lib.hid hr5
    have HF5 := Lib.hid hf5
    clear hx hr5 hf5 HOE1 HOE2 HOE3 hlt3 h30 hn1 hn2 hn3 hn4 x0 x1 x2 x3 x4 y0 y1 y2 y3 y4
    have HS := Lib.hid HX.out.sb
    have y0 := HS.out.b1.cell 0
    have y1 := HS.out.b1.cell 1
    have y2 := HS.out.b1.cell 2
    have y3 := HS.out.b1.cell 3
    have y4 := HS.out.b1.cell 4
    simp at y0 y1 y2 y3 y4
    have m0 := HX.out.nx.cell 0
    have m1 := HX.out.nx.cell 1
    have m2 := HX.out.nx.cell 2
    have m3 := HX.out.nx.cell 3
    have m4 := HX.out.nx.cell 4
    have mf0 := HX.out.nx.frozen 0
    have mf1 := HX.out.nx.frozen 1
    have mf2 := HX.out.nx.frozen 2
    have mf3 := HX.out.nx.frozen 3
    have mf4 := HX.out.nx.frozen 4
    simp at m0 m1 m2 m3 m4
    have hlm := HX.out.lt
    have hq0 : ¬ mb = w.heap.size := by omega
    have hq1 : ¬ w.heap.size = mb := by omega
    have hq2 : ¬ mb = w.heap.size + 1 := by omega
    have hq3 : ¬ w.heap.size + 1 = mb := by omega
    have hq4 : ¬ mb = w.heap.size + 2 := by omega
    have hq5 : ¬ w.heap.size + 2 = mb := by omega
    go_wp2_with fail
    refine (HVC.out _).mono ?_
    rintro e w6 ⟨rfl, hb⟩
    have HX := Lib.hid (HX.out.calc_ hb)
    clear hb y0 y1 y2 y3 y4 m0 m1 m2 m3 m4 mf0 mf1 mf2 mf3 mf4 hlm hq0 hq1 hq2 hq3 hq4 hq5
    have HS := Lib.hid HX.out.sb
    have r0 := HS.out.b2.cell 0
    have r1 := HS.out.b2.cell 1
    have r2 := HS.out.b2.cell 2
    have r3 := HS.out.b2.cell 3
    have r4 := HS.out.b2.cell 4
    have rf0 := HS.out.b2.frozen 0
    have rf1 := HS.out.b2.frozen 1
    have rf2 := HS.out.b2.frozen 2
    have rf3 := HS.out.b2.frozen 3
    have rf4 := HS.out.b2.frozen 4
    simp at r0 r1 r2 r3 r4
    go_wp2
    exact bodyPost_ret (v := .tuple #[.agg #[.int .i64 0, .slice none 0 0, .int .i64 0, .int .i64 0, .int .i64 0], .int .i64 2]) (by simp [results, Tryd.results17, go_sem, r0, r1, r2, r3, r4]) rfl (step_err HN.out (by omega) (below_only HS.out.below (put5_only _ (w.heap.size + 2) (.int .i64 0) (.slice none 0 0) (.int .i64 0) (.int .i64 0) (.int .i64 0)) (by omega)))
end Go.Proofs.YtolkdidcmingkaaDoor
