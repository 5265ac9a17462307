/-
  Chapter 10: the walk of the law ShiftUnplanned. The memory is that of the given program; no conditions.
-/
import Derived.Test.YtagkdkkpgcolkaaSh26c
namespace Go.Proofs.Ytagkdkkpgcolkaa
open Go.RowKit
set_option linter.unusedVariables false
set_option linter.unusedSimpArgs false
set_option maxRecDepth 100000 in
set_option maxHeartbeats 6400000 in
theorem shiftUnplanned_walk (A0 : Option Addr) (c0 : Nat) (l0 : List Int) (early0 : Int) (w : World) (hr0 : RdI w w.heap.size A0 l0) (hl0 : l0.length ≤ 9223372036854775807) :
    Calls Try.prog 7 #[.slice A0 l0.length c0, .int .i64 early0] w (RetB true w) := by
  have HNEW := Lib.hid (new_any A0 c0 l0 w hr0 hl0)
  clear hr0
  go_enter Try.func7, Try.ntmps7
  go_wp2_with fail
  refine HNEW.out.mono ?_
  rintro e w1 ⟨rfl, hb1, hd1, _⟩
  obtain ⟨g, Hg⟩ : ∃ g, Hid (g = w.heap.size) := ⟨_, Lib.hid rfl⟩
  rw [← Hg.out]
  have HL1 : Hid (LW w g 0 w1) := Lib.hid (by rw [Hg.out]; exact ⟨hb1, hd1, Nat.le_refl _⟩)
  clear hb1 hd1 HNEW Hg
  go_wp2_with fail
  refine (zone_any g 0 _ HL1.out.deck (by omega)).mono ?_
  rintro e w2 ⟨o, A, c, l, a, rfl, hgen, hr, hne, ho2, hD2⟩
  have HV : Hid (zerr o l = 0) := Lib.hid (zerr_of (zgen_val hgen))
  have HZL : Hid (l.length ≤ 9223372036854775807) := Lib.hid (by have := hgen.1; omega)
  have HL2 : Hid (LW w g (0 + 20) w2) := Lib.hid (HL1.out.only ho2 hD2)
  have HR2 := Lib.hid hr
  have HNe : Hid (∀ b off, A = some ⟨b, off, none⟩ → b ≠ g) := Lib.hid (fun b off e => by have h1 := hne b off e; have h2 := HL1.out.deck.lt; omega)
  clear hgen hr hne ho2 hD2 HL1
  go_wp2_with fail
  refine (presences_any g (0 + 20) 7 7 _ HL2.out.deck (by omega) rfl (by omega)).mono ?_
  rintro e w3 ⟨A3, c3, ps, ms, a3, rfl, hp7, hpg, hps, ho, hD⟩
  have HL3 : Hid (LW w g (0 + 20 + 80) w3) := Lib.hid (HL2.out.only ho hD)
  have HR3 : Hid (RdP w3 w3.heap.size A l) := Lib.hid (Rd.more (Rd.only' HR2.out ho (Nat.le_refl _) HNe.out) ho.size)
  have HP3 : Hid (RdPr w3 A3 ps) := Lib.hid (ownPs_rd hps)
  have HPV : Hid (prV ps = 0) := Lib.hid (made_pr hpg hp7)
  have HPO : Hid (prOk ps ps.length) := Lib.hid hpg.1
  clear hpg hps ho hD HL2 HR2 HNe
  go_upto_region 3 with (fail)
  obtain ⟨w4, Hw4⟩ : ∃ W, Hid (W = w3.alloc (.cells #[.int .i64 o, .slice A l.length c] 25)) := ⟨_, Lib.hid rfl⟩
  obtain ⟨gz, Hgz⟩ : ∃ x, Hid (x = w3.heap.size) := ⟨_, Lib.hid rfl⟩
  rw [← Hw4.out, ← Hgz.out]
  have HA4 : Hid (Below w3.heap.size w3 w4) := Lib.hid (by rw [Hw4.out]; exact (Below.refl _ _).alloc (Nat.le_refl _) _)
  have HZ4 : Hid (Blk w4 gz 25 #[.int .i64 o, .slice A l.length c]) := Lib.hid (by rw [Hw4.out, Hgz.out]; exact Blk.new _ _ _)
  have HB4 : Hid (Below w.heap.size w w4) := Lib.hid ((HL3.out.bel HA4.out).below)
  have HR4 : Hid (RdP w4 w4.heap.size A l) := Lib.hid (rdP_up HR3 HA4.out)
  have HP4 : Hid (RdPr w4 A3 ps) := Lib.hid (HP3.out.below HA4.out)
  clear Hw4 Hgz HA4 HL3 HR3 HP3
  obtain ⟨ev, Hev⟩ : ∃ x, Hid (x = early0 % 1441) := ⟨_, Lib.hid rfl⟩
  have hev : 0 ≤ ev ∧ ev ≤ 1440 := by rw [Hev.out]; omega
  obtain ⟨ds, Hds⟩ : ∃ x, Hid (x = asL o l [] ps ev 0) := ⟨_, Lib.hid rfl⟩
  have HE0 : Hid (asE o l [] ps ev 0 = 0) := Lib.hid (by rw [asE_made HPV.out ⟨hev.1, hev.2, by decide, by decide⟩]; exact vE_nil HV.out)
  have Hds2 : Hid (ds = asTo o l [] [] ev 0 ps ps.length) := Lib.hid (by rw [Hds.out]; rfl)
  have HU : Hid (∀ i, i < ds.length → uS ds i = -1) := Lib.hid (by rw [Hds2.out]; exact (as_days HV.out HPO.out _ (Nat.le_refl _)).1)
  have HAs : Hid (∀ i, i + 1 < ds.length → uD ds i < uD ds (i + 1)) := Lib.hid (by rw [Hds2.out]; exact (as_days HV.out HPO.out _ (Nat.le_refl _)).2)
  have HK : Hid (∀ i j, i < ds.length → j < (uP ds i).length → uD ds i = dayR o l (pF (uP ds i) j) ∧ instOk (pF (uP ds i) j)) := Lib.hid (by
    rw [Hds2.out]
    intro i j hi hj
    have hd := (as_key (o := o) (zl := l) (l := []) (S := []) (early := ev) (late := 0) (P := ps) ps.length).key i j hi hj
    obtain ⟨m, hm, e1, _⟩ := (as_div (o := o) (zl := l) (l := []) (S := []) (early := ev) (late := 0) HPO.out _ (Nat.le_refl _)).fnd i j hi hj
    have hb := pF_bd (fun i hi => HPO.out i (by omega) : prOk ps (m + 1)) hm
    refine ⟨?_, by rw [e1]; exact ⟨hb.1, hb.2⟩⟩
    have h2 := hd.2
    unfold kD at h2
    rw [if_neg (by show ¬ (0 : Int) ≤ -1; omega)] at h2
    exact h2)
  have HUL : Hid (∀ i, (uP ds i).length ≤ 7) := Lib.hid (by rw [Hds2.out]; exact fun i => Nat.le_trans (uP_len _ i) hp7)
  have HDL : Hid (ds.length ≤ 7) := Lib.hid (by rw [Hds2.out]; exact Nat.le_trans (as_len _) hp7)
  refine unpl3 (ev := ev) (ds := ds) 3 (by kernel_rfl) rfl rfl rfl rfl rfl rfl rfl rfl rfl rfl (show 97 ≤ 97 from by decide) (fun _ _ _ _ _ h => h) rfl rfl rfl (HZ4.out.cell 0) (HZ4.out.cell 1) (fun W hW => (mod_any' early0 1441 W (by omega) (by omega)).mono (fun e w' h => ⟨by rw [h.1, Hev.out], by rw [h.2]; exact Below.refl _ _⟩)) (fun W hW => (assign_any o A c l.length l none 0 0 [] A3 c3 ps.length ps ev 0 W (Lib.hid rfl) (Lib.hid rfl) (Lib.hid rfl) (rdP_up HR4 hW) HZL.out Rd.none_ (by decide) (HP4.out.below hW) (by omega)).mono (fun e w' h => asOk_of HE0.out Hds h)) ?_
  intro z0 z1 z2 z3 z4 z5 z6 z7 A5 n5 c5 w5 HB5 Hn5 HD5
  simp only [Act.put, List.setIfInBounds_toArray, List.set_cons_zero, List.set_cons_succ]
  have HBw5 : Hid (Below w.heap.size w w5) := Lib.hid (HB4.out.trans (HB5.out.mono HB4.out.size))
  have HZ5 : Hid (Blk w5 gz 25 #[.int .i64 o, .slice A l.length c]) := Lib.hid (HZ4.out.below HB5.out HZ4.out.lt)
  have HR5 : Hid (RdP w5 w5.heap.size A l) := Lib.hid (rdP_up HR4 HB5.out)
  have hn5 : n5 ≤ 7 := by rw [Hn5.out]; exact HDL.out
  clear HB4 HZ4 HR4 HP4 HB5 Hds Hds2 HPV HPO HE0 HDL Hev hev
  go_wp2
  go_loopw [10] (fun i wr => ∃ k : Nat, k ≤ n5 ∧ i = .int .i64 k ∧ Below w5.heap.size w5 wr) (fun i _ => n5 - (intOf i).toNat)
  case atStart => exact ⟨0, Nat.zero_le _, rfl, Below.refl _ _⟩
  case round =>
    obtain ⟨k, hk, rfl, hbk⟩ := hrel
    have HBk := Lib.hid hbk
    clear hbk
    by_cases hkn : k < n5
    · have hkd : k < ds.length := by rw [← Hn5.out]; exact hkn
      obtain ⟨gD, hA5⟩ := du_addr HD5 hkd
      subst hA5
      obtain ⟨mi, Hmi⟩ : ∃ x, Hid (x = (uP ds k).length) := ⟨_, Lib.hid rfl⟩
      obtain ⟨y, Hy⟩ : ∃ x, Hid (x = uD ds k) := ⟨_, Lib.hid rfl⟩
      have hmi : mi ≤ 7 := by rw [Hmi.out]; exact HUL.out k
      go_wp2
      go_loopw [11] (fun j wq => ∃ q : Nat, q ≤ mi ∧ j = .int .i64 q ∧ Below w5.heap.size w5 wq) (fun j _ => mi - (intOf j).toNat)
      case atStart => exact ⟨0, Nat.zero_le _, rfl, HBk.out⟩
      case round =>
        obtain ⟨q, hq, rfl, hbq⟩ := hrel
        have HBq := Lib.hid hbq
        clear hbq
        obtain ⟨B, cb, d0, d1, d2, hpr⟩ := du_cells HD5 HBq.out hkd
        rw [← Hmi.out] at d2
        rw [← Hy.out] at d1
        rw [HU.out k hkd] at d0
        by_cases hqm : q < mi
        · have hqu : q < (uP ds k).length := by rw [← Hmi.out]; exact hqm
          obtain ⟨gP, oP, B2, m2, c2, rfl, hpa⟩ := pr_cells (Lib.hid hpr) (Below.refl _ _) hqu
          obtain ⟨f, Hf⟩ : ∃ x, Hid (x = pF (uP ds k) q) := ⟨_, Lib.hid rfl⟩
          have hf0 := hpa.c0
          rw [← Hf.out] at hf0
          have HF0 := Lib.hid hf0
          have HD2 := Lib.hid d2
          have HD1 := Lib.hid d1
          have HD0 := Lib.hid d0
          have hky := HK.out k q hkd hqu
          rw [← Hf.out, ← Hy.out] at hky
          have HKy : Hid (y = dayR o l f) := Lib.hid hky.1
          have HKi : Hid (instOk f) := Lib.hid hky.2
          have HZq := Lib.hid (HZ5.out.below HBq.out HZ5.out.lt)
          clear hpr hpa hf0 d0 d1 hky
          go_upto_region 12 with (fail)
          clear d2
          refine unpl12 (o := o) (f := f) (y := y) 12 (by kernel_rfl) rfl rfl rfl rfl rfl rfl rfl rfl rfl rfl rfl rfl rfl rfl rfl rfl rfl (show 97 ≤ 97 from by decide) (fun _ _ _ _ _ h => h) rfl rfl rfl rfl hkn hqm (HZq.out.cell 0) (HZq.out.cell 1) HD2.out HF0.out (fun W hW => day_at (Lib.hid rfl) HV HKy HKi.out (rdP_up HR5 (HBq.out.trans (hW.mono HBq.out.size))) HZL) ?_
          intro z0 z1 z2 z3 z4 z5 z6 z7 z8 z9 z10 z11 z12 z13 z14 w6 HB6
          simp only [Act.put, List.setIfInBounds_toArray, List.set_cons_zero, List.set_cons_succ]
          have HB56 : Hid (Below w5.heap.size w5 w6) := Lib.hid (HBq.out.trans (HB6.out.mono HBq.out.size))
          have e0 : w6.cell? ⟨gD, k * 3, none⟩ = some (.int .i64 (-1)) := (HB6.out.cell (p := ⟨gD, k * 3, none⟩) (World.block_lt_of_cell? _ _ HD0.out)).trans HD0.out
          have e1 : w6.cell? ⟨gD, k * 3 + 1, none⟩ = some (.int .i64 y) := (HB6.out.cell (p := ⟨gD, k * 3 + 1, none⟩) (World.block_lt_of_cell? _ _ HD1.out)).trans HD1.out
          clear HF0 HD2 HD1 HD0 HKy HKi HZq HB6 HBq
          go_wp2
          go_roundw
          case rel => exact ⟨q + 1, by omega, by go_num, HB56.out⟩
          case measure => simp [intOf]; omega
        · obtain rfl : q = mi := by omega
          have HD1 := Lib.hid d1
          clear hpr d0 d1
          go_upto_region 15 with (fail)
          clear d2
          by_cases hk0 : k = 0
          · subst hk0
            refine unpl15a 15 (by kernel_rfl) rfl rfl rfl rfl rfl rfl rfl rfl rfl rfl rfl rfl rfl rfl rfl rfl (show 97 ≤ 97 from by decide) (fun _ _ _ _ _ h => h) rfl rfl ?_
            intro z0 z1 z2 z3 z4 z5 z6 z7 z8 z9 z10 z11 z12 z13 z14 w6 HB6
            simp only [Act.put, List.setIfInBounds_toArray, List.set_cons_zero, List.set_cons_succ]
            have HB56 : Hid (Below w5.heap.size w5 w6) := Lib.hid (HBq.out.trans (HB6.out.mono HBq.out.size))
            clear HD1 HB6 HBq
            go_wp2
            go_roundw
            case rel => exact ⟨0 + 1, by omega, by go_num, HB56.out⟩
            case measure => simp [intOf]; omega
          · obtain ⟨k1, hk1⟩ : ∃ k1, k = k1 + 1 := ⟨k - 1, by omega⟩
            obtain ⟨B1, cb1, _, f1, _, _⟩ := du_cells HD5 HBq.out (show k1 < ds.length by omega)
            have hlt := HAs.out k1 (by omega)
            rw [← hk1, ← Hy.out] at hlt
            obtain ⟨y1, Hy1⟩ : ∃ x, Hid (x = uD ds k1) := ⟨_, Lib.hid rfl⟩
            rw [← Hy1.out] at hlt f1
            have HF1 := Lib.hid f1
            have HLt := Lib.hid hlt
            have HK1 := Lib.hid hk1
            clear f1 hlt hk1
            refine unpl15b (i1 := k1) (y := y) (yb := y1) 15 (by kernel_rfl) rfl rfl rfl rfl rfl rfl rfl rfl rfl rfl rfl rfl rfl rfl rfl rfl (show 97 ≤ 97 from by decide) (fun _ _ _ _ _ h => h) rfl rfl hkn HK1.out (by omega) HD1.out HF1.out HLt.out ?_
            intro z0 z1 z2 z3 z4 z5 z6 z7 z8 z9 z10 z11 z12 z13 z14 w6 HB6
            simp only [Act.put, List.setIfInBounds_toArray, List.set_cons_zero, List.set_cons_succ]
            have HB56 : Hid (Below w5.heap.size w5 w6) := Lib.hid (HBq.out.trans (HB6.out.mono HBq.out.size))
            clear HD1 HF1 HLt HK1 HB6 HBq
            go_wp2
            go_roundw
            case rel => exact ⟨k + 1, by omega, by go_num, HB56.out⟩
            case measure => simp [intOf]; omega
    · have HW : Hid (Below w.heap.size w wr) := Lib.hid (HBw5.out.trans (HBk.out.mono HBw5.out.size))
      go_wp2_with fail
      refine (sane_any _).mono ?_
      rintro e x2 ⟨rfl, hb⟩
      have HW := Lib.hid (HW.out.trans (hb.mono HW.out.size))
      clear hb
      go_wp2
      go_ret
      exact ⟨rfl, HW.out⟩
end Go.Proofs.Ytagkdkkpgcolkaa
