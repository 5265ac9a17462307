/-
  Chapter 40: run.Step, in parts.
-/
import Derived.Test.YtolkdidcmingkaaDoorRun6
namespace Go.Proofs.YtolkdidcmingkaaDoor
open Go.RowKit
set_option linter.unusedVariables false
set_option linter.unusedSimpArgs false

set_option maxHeartbeats 3200000 in
theorem step_k5 (s : Int) (A : Option Addr) (c : Nat) (E : List Int) (c0 c1 c2 : Int) (Q : Option Addr) (q : Nat) (F : List Int) (d0 d1 d2 : Int) (w : World) (hT : Tab w) (hr : RdI w w.heap.size A E) (hl : E.length ≤ 100000) (hq : RdI w w.heap.size Q F) (hlq : F.length ≤ 100000) (hv : validB s E (c0, c1, c2) = true) (hf : formB 5 F.length (eqC (d0, d1, d2) (0, 0, 0)) = true) (hm : mayB s 5 = true) :
    Calls Tryd.prog 10 #[.agg #[.int .i64 s, .slice A E.length c, .int .i64 c0, .int .i64 c1, .int .i64 c2], .agg #[.int .i64 5, .slice Q F.length q, .int .i64 d0, .int .i64 d1, .int .i64 d2]] w (StepPost s E (c0, c1, c2) 5 F (d0, d1, d2) w) := by
  have HV : Hid (∀ W, SB w #[.int .i64 s, .slice A E.length c, .int .i64 c0, .int .i64 c1, .int .i64 c2] #[.int .i64 5, .slice Q F.length q, .int .i64 d0, .int .i64 d1, .int .i64 d2] W → Calls Tryd.prog 11 #[.agg #[.int .i64 s, .slice A E.length c, .int .i64 c0, .int .i64 c1, .int .i64 c2]] W (RetB (validB s E (c0, c1, c2)) W)) := Lib.hid (fun W h => rvalid_any s A c _ E c0 c1 c2 W (hr.below h.below) h.below.size (by omega))
  have HFm : Hid (∀ W, SB w #[.int .i64 s, .slice A E.length c, .int .i64 c0, .int .i64 c1, .int .i64 c2] #[.int .i64 5, .slice Q F.length q, .int .i64 d0, .int .i64 d1, .int .i64 d2] W → Calls Tryd.prog 23 #[.agg #[.int .i64 5, .slice Q F.length q, .int .i64 d0, .int .i64 d1, .int .i64 d2]] W (RetB (formB 5 F.length (eqC (d0, d1, d2) (0, 0, 0))) W)) := Lib.hid (fun W h => formed_any 5 Q F.length q d0 d1 d2 W (by omega))
  have HTg : Hid (∀ W, SB w #[.int .i64 s, .slice A E.length c, .int .i64 c0, .int .i64 c1, .int .i64 c2] #[.int .i64 5, .slice Q F.length q, .int .i64 d0, .int .i64 d1, .int .i64 d2] W → Calls Tryd.prog 24 #[.int .i64 s, .int .i64 5] W (RetIB (tgV s 5) (mayB s 5) W)) := Lib.hid (fun W h => target_any s 5 W (hT.below h.below hT.lt))
  have HAF : Hid (∀ W, SB w #[.int .i64 s, .slice A E.length c, .int .i64 c0, .int .i64 c1, .int .i64 c2] #[.int .i64 5, .slice Q F.length q, .int .i64 d0, .int .i64 d1, .int .i64 d2] W → Calls Tryd.prog 25 #[.slice Q F.length q] W (RetB (ascB F) W)) := Lib.hid (fun W h => ascending_any Q q _ F W (hq.below h.below) h.below.size (by omega))
  have HFt : Hid (∀ W, SB w #[.int .i64 s, .slice A E.length c, .int .i64 c0, .int .i64 c1, .int .i64 c2] #[.int .i64 5, .slice Q F.length q, .int .i64 d0, .int .i64 d1, .int .i64 d2] W → Calls Tryd.prog 26 #[.agg #[.int .i64 d0, .int .i64 d1, .int .i64 d2], .int .i64 (E.length : Int)] W (RetB (fitsB (d0, d1, d2) E.length) W)) := Lib.hid (fun W h => fits_any d0 d1 d2 E.length W)
  have HCE : Hid (∀ W, SB w #[.int .i64 s, .slice A E.length c, .int .i64 c0, .int .i64 c1, .int .i64 c2] #[.int .i64 5, .slice Q F.length q, .int .i64 d0, .int .i64 d1, .int .i64 d2] W → Calls Tryd.prog 27 #[.slice A E.length c] W (ClonePost E W)) := Lib.hid (fun W h => clone_any A c E W (Rd.more (hr.below h.below) h.below.size) hl)
  have HCF : Hid (∀ W, SB w #[.int .i64 s, .slice A E.length c, .int .i64 c0, .int .i64 c1, .int .i64 c2] #[.int .i64 5, .slice Q F.length q, .int .i64 d0, .int .i64 d1, .int .i64 d2] W → Calls Tryd.prog 27 #[.slice Q F.length q] W (ClonePost F W)) := Lib.hid (fun W h => clone_any Q q F W (Rd.more (hq.below h.below) h.below.size) hlq)
  have HS := Lib.hid (SB.start w #[.int .i64 s, .slice A E.length c, .int .i64 c0, .int .i64 c1, .int .i64 c2] #[.int .i64 5, .slice Q F.length q, .int .i64 d0, .int .i64 d1, .int .i64 d2])
  have hce := run_eqC d0 d1 d2 c0 c1 c2
  have HE : Hid (stE s E (c0, c1, c2) 5 F (d0, d1, d2) = if validB s E (c0, c1, c2) && formB 5 F.length (eqC (d0, d1, d2) (0, 0, 0)) then (if mayB s 5 then (if (5 : Int) = 1 then (if ascB F then 0 else 2) else if (5 : Int) = 2 then (if fitsB (d0, d1, d2) E.length then 0 else 2) else if (5 : Int) = 3 ∨ (5 : Int) = 4 then (if eqC (d0, d1, d2) (c0, c1, c2) then 0 else 17) else 0) else 15) else 1) := Lib.hid rfl
  have hEl : (E.length : Int) ≤ 100000 := by omega
  have htv : tgV s 5 = 6 := by unfold tgV; rw [hm]; decide
  rw [hm, htv] at HTg
  rw [hv] at HV
  rw [hf] at HFm
  have HE2 : Hid (stE s E (c0, c1, c2) 5 F (d0, d1, d2) = (0)) := Lib.hid (by rw [HE.out, hv, hf, hm]; rfl)
  clear hr hq hT hv hf hm htv HE
  clear hce HAF HCF HFt
  have HN : Hid (stE s E (c0, c1, c2) 5 F (d0, d1, d2) = 0) := HE2
  clear HE2
  go_enter Tryd.func10, Tryd.ntmps10
  go_wp2_with fail
  refine (HV.out _ HS.out).mono ?_
  rintro e w1 ⟨rfl, hb⟩
  have HS := Lib.hid (HS.out.calc_ hb)
  clear hb
  have y0 := HS.out.b1.cell 0
  have y1 := HS.out.b1.cell 1
  have y2 := HS.out.b1.cell 2
  have y3 := HS.out.b1.cell 3
  have y4 := HS.out.b1.cell 4
  simp at y0 y1 y2 y3 y4
  go_wp2_with fail
  refine (HFm.out _ HS.out).mono ?_
  rintro e w2 ⟨rfl, hb⟩
  have HS := Lib.hid (HS.out.calc_ hb)
  clear hb
  clear y0 y1 y2 y3 y4
  have x0 := HS.out.b0.cell 0
  have x1 := HS.out.b0.cell 1
  have x2 := HS.out.b0.cell 2
  have x3 := HS.out.b0.cell 3
  have x4 := HS.out.b0.cell 4
  have y0 := HS.out.b1.cell 0
  have y1 := HS.out.b1.cell 1
  have y2 := HS.out.b1.cell 2
  have y3 := HS.out.b1.cell 3
  have y4 := HS.out.b1.cell 4
  simp at x0 x1 x2 x3 x4 y0 y1 y2 y3 y4
  go_wp2_with fail
  refine (HTg.out _ HS.out).mono ?_
  rintro e w3 ⟨rfl, hb⟩
  have HS := Lib.hid (HS.out.calc_ hb)
  clear hb
  clear x0 x1 x2 x3 x4 y0 y1 y2 y3 y4
  have x0 := HS.out.b0.cell 0
  have x1 := HS.out.b0.cell 1
  have x2 := HS.out.b0.cell 2
  have x3 := HS.out.b0.cell 3
  have x4 := HS.out.b0.cell 4
  have y0 := HS.out.b1.cell 0
  have y1 := HS.out.b1.cell 1
  have y2 := HS.out.b1.cell 2
  have y3 := HS.out.b1.cell 3
  have y4 := HS.out.b1.cell 4
  simp at x0 x1 x2 x3 x4 y0 y1 y2 y3 y4
  have hlt3 := HS.out.b2.lt
  have h30 : w.heap.size < w3.heap.size := by omega
  have h31 : w.heap.size + 1 < w3.heap.size := by omega
  have h32 : w.heap.size + 1 + 1 < w3.heap.size := by omega
  go_wp2_with fail
  have HX := Lib.hid (SN.start HS.out #[.int .i64 6, .slice A E.length c, .int .i64 c0, .int .i64 c1, .int .i64 c2])
  clear x0 x1 x2 x3 x4 y0 y1 y2 y3 y4 h30 h31 h32
  refine (HCE.out _ HX.out.sb).mono ?_
  rintro e w5 ⟨A5, n5, rfl, hb5, hr5, hf5⟩
  have HF6 : Hid (∀ b off, A5 = some ⟨b, off, none⟩ → b ≠ w3.heap.size ∧ b ≠ w.heap.size + 2 ∧ w.heap.size ≤ b) := Lib.hid (fun b off e => by have h1 := hf5 b off e; have h2 := HX.out.nx.lt; have h3 := HX.out.lt; omega)
  have HX := Lib.hid (HX.out.calc_ hb5)
  have HR5 := Lib.hid hr5
  have hlt5 := HX.out.lt
  clear hb5 hr5 hf5
  have HS := Lib.hid HX.out.sb
  have r0 := HS.out.b2.cell 0
  have r1 := HS.out.b2.cell 1
  have r2 := HS.out.b2.cell 2
  have r3 := HS.out.b2.cell 3
  have r4 := HS.out.b2.cell 4
  have rf0 := HS.out.b2.frozen 0
  have rf1 := HS.out.b2.frozen 1
  have rf2 := HS.out.b2.frozen 2
  have rf3 := HS.out.b2.frozen 3
  have rf4 := HS.out.b2.frozen 4
  simp at r0 r1 r2 r3 r4
  have m0 := HX.out.nx.cell 0
  have m1 := HX.out.nx.cell 1
  have m2 := HX.out.nx.cell 2
  have m3 := HX.out.nx.cell 3
  have m4 := HX.out.nx.cell 4
  have mf0 := HX.out.nx.frozen 0
  have mf1 := HX.out.nx.frozen 1
  have mf2 := HX.out.nx.frozen 2
  have mf3 := HX.out.nx.frozen 3
  have mf4 := HX.out.nx.frozen 4
  simp at m0 m1 m2 m3 m4
  generalize w3.heap.size = mb at *
  have hne : ¬ mb = w.heap.size + 2 := by omega
  have hne2 : ¬ w.heap.size + 2 = mb := by omega
  have hO1 : Only mb w5 (w5.setCell ⟨mb, 1, none⟩ (.slice A5 E.length n5)) := (Only.refl mb w5).setCell (p := ⟨mb, 1, none⟩) (.inl rfl) _
  have hO2 := put5_only (w5.setCell ⟨mb, 1, none⟩ (.slice A5 E.length n5)) (w.heap.size + 2) (.int .i64 6) (.slice A5 E.length n5) (.int .i64 c0) (.int .i64 c1) (.int .i64 c2)
  have HO1 := Lib.hid hO1
  have HO2 := Lib.hid hO2
  clear hO1 hO2
  go_wp2
  exact bodyPost_ret (v := .tuple #[.agg #[.int .i64 6, .slice A5 E.length n5, .int .i64 c0, .int .i64 c1, .int .i64 c2], .int .i64 0]) (by simp [results, Tryd.results10, go_sem, r0, r1, r2, r3, r4]) rfl (step_ok (s' := 6) (E' := E) (c0 := c0) (c1 := c1) (c2 := c2) HN.out (by decide) (by simp) (by simp) (below_only (below_only HS.out.below HO1.out (by omega)) HO2.out (by omega)) (rd_only (rd_only HR5.out HO1.out (fun b off e => (HF6.out b off e).1)) HO2.out (fun b off e => (HF6.out b off e).2.1)) (fun b off e => (HF6.out b off e).2.2))
end Go.Proofs.YtolkdidcmingkaaDoor
