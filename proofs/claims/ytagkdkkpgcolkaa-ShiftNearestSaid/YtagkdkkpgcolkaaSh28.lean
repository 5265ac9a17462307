/-
  Chapter 10: the walk of the law ShiftNearest. The memory is that of the given program; no conditions.
-/
import Derived.Test.YtagkdkkpgcolkaaSh28r
namespace Go.Proofs.Ytagkdkkpgcolkaa
open Go.RowKit
set_option linter.unusedVariables false
set_option linter.unusedSimpArgs false
set_option maxRecDepth 100000 in
set_option maxHeartbeats 12800000 in
theorem shiftNearest_walk (A0 : Option Addr) (c0 : Nat) (l0 : List Int) (w : World) (hr0 : RdI w w.heap.size A0 l0) (hl0 : l0.length ≤ 9223372036854775807) :
    Calls Try.prog 6 #[.slice A0 l0.length c0] w (RetB true w) := by
  have HNEW := Lib.hid (new_any A0 c0 l0 w hr0 hl0)
  clear hr0
  go_enter Try.func6, Try.ntmps6
  go_wp2_with fail
  refine HNEW.out.mono ?_
  rintro e w1 ⟨rfl, hb1, hd1, _⟩
  obtain ⟨g, Hg⟩ : ∃ g, Hid (g = w.heap.size) := ⟨_, Lib.hid rfl⟩
  rw [← Hg.out]
  have HL1 : Hid (LW w g 0 w1) := Lib.hid (by rw [Hg.out]; exact ⟨hb1, hd1, Nat.le_refl _⟩)
  clear hb1 hd1 HNEW Hg
  go_wp2_with fail
  refine (zone_any g 0 _ HL1.out.deck (by omega)).mono ?_
  rintro e w2 ⟨o, A, c, l, a, rfl, hgen, hr, hne, ho2, hD2⟩
  have HV : Hid (zerr o l = 0) := Lib.hid (zerr_of (zgen_val hgen))
  have HZL : Hid (l.length ≤ 9223372036854775807) := Lib.hid (by have := hgen.1; omega)
  have HL2 : Hid (LW w g (0 + 20) w2) := Lib.hid (HL1.out.only ho2 hD2)
  have HR2 := Lib.hid hr
  have HNe : Hid (∀ b off, A = some ⟨b, off, none⟩ → b ≠ g) := Lib.hid (fun b off e => by have h1 := hne b off e; have h2 := HL1.out.deck.lt; omega)
  clear hgen hr hne ho2 hD2 HL1
  go_wp2_with fail
  refine (plan_any g (0 + 20) 6 6 _ HL2.out.deck (by omega) rfl (by omega)).mono ?_
  rintro e w3 ⟨A1, c1, pl, rfl, hpk, hpr⟩
  have HPK : Hid (PlanOk pl) := Lib.hid hpk
  have hpl : pl.length ≤ 12 := hpk.1
  have HL3 : Hid (LW w g (0 + 20 + 24) w3) := Lib.hid (HL2.out.pr hpr)
  have HR3 : Hid (RdP w3 w3.heap.size A l) := Lib.hid (Rd.more (Rd.only' HR2.out hpr.only (Nat.le_refl _) HNe.out) hpr.only.size)
  have HT3 : Hid (w3.ownsRow w2.heap.size 42 3 (.slice A1 pl.length c1) pl.length (flat3 pl)) := Lib.hid hpr.own
  clear hpk hpr HL2 HR2
  go_wp2_with fail
  refine (presences_any g (0 + 20 + 24) 6 6 _ HL3.out.deck (by omega) rfl (by omega)).mono ?_
  rintro e w4 ⟨A4, c4, ps, ms, a4, rfl, hp7, hpg, hps, ho, hD⟩
  have HL4 : Hid (LW w g (0 + 20 + 24 + 80) w4) := Lib.hid (HL3.out.only ho hD)
  have HR4 : Hid (RdP w4 w4.heap.size A l) := Lib.hid (Rd.more (Rd.only' HR3.out ho (Nat.le_refl _) HNe.out) ho.size)
  have HT4 : Hid (w4.ownsRow w2.heap.size 42 3 (.slice A1 pl.length c1) pl.length (flat3 pl)) := Lib.hid (row_only HT3.out ho HL3.out.deck)
  have HS4 : Hid (OwnPs w4 w3.heap.size w4.heap.size (.slice A4 ps.length c4) ps ms) := Lib.hid hps
  have HPV : Hid (prV ps = 0) := Lib.hid (made_pr hpg hp7)
  have HPO : Hid (prOk ps ps.length) := Lib.hid hpg.1
  clear hpg hps ho hD HL3 HR3 HT3
  go_upto_region 3 with (fail)
  obtain ⟨w5, Hw5⟩ : ∃ W, Hid (W = w4.alloc (.cells #[.int .i64 o, .slice A l.length c] 25)) := ⟨_, Lib.hid rfl⟩
  obtain ⟨gz, Hgz⟩ : ∃ x, Hid (x = w4.heap.size) := ⟨_, Lib.hid rfl⟩
  rw [← Hw5.out, ← Hgz.out]
  have HA5 : Hid (Below w4.heap.size w4 w5) := Lib.hid (by rw [Hw5.out]; exact (Below.refl _ _).alloc (Nat.le_refl _) _)
  have HZ5 : Hid (Blk w5 gz 25 #[.int .i64 o, .slice A l.length c]) := Lib.hid (by rw [Hw5.out, Hgz.out]; exact Blk.new _ _ _)
  have HL5 : Hid (LW w g (0 + 20 + 24 + 80) w5) := Lib.hid (HL4.out.bel HA5.out)
  have HR5 : Hid (RdP w5 w5.heap.size A l) := Lib.hid (rdP_up HR4 HA5.out)
  have HT5 : Hid (w5.ownsRow w2.heap.size 42 3 (.slice A1 pl.length c1) pl.length (flat3 pl)) := Lib.hid (by rw [Hw5.out]; exact HT4.out.alloc _)
  have HS5 : Hid (OwnPs w5 w3.heap.size w4.heap.size (.slice A4 ps.length c4) ps ms) := Lib.hid (HS4.out.chg (S := fun _ => False) (Chg.of_below' HA5.out |>.mono (fun _ _ h => h)) (Nat.le_refl _) (fun _ _ h => h) (fun _ h => h.elim))
  clear Hw5 Hgz HA5 HL4 HR4 HT4 HS4
  have z0 : w5.cell? ⟨gz, 0, none⟩ = some (.int .i64 o) := by have := HZ5.out.cell 0; simpa using this
  clear z0
  go_wp2_with fail
  refine (pick_new g (0 + 20 + 24 + 80) [60, 0, 180] _ 3 3 HL5.out.deck (by omega) (by decide) (by decide)).mono ?_
  rintro e w6 ⟨u, rfl, hu, ho, hD⟩
  have hu2 : 0 ≤ u ∧ u ≤ 1440 := by simp at hu; omega
  have HO6 := Lib.hid ho
  have HD6 := Lib.hid hD
  clear hu ho hD
  go_wp2_with fail
  refine (pick_new g (0 + 20 + 24 + 80 + 1) [120, 0] _ 3 2 HD6.out (by omega) (by decide) (by decide)).mono ?_
  rintro e w7 ⟨v, rfl, hv, ho, hD⟩
  have hv2 : 0 ≤ v ∧ v ≤ 1440 := by simp at hv; omega
  have HO7 : Hid (Only g w5 w7) := Lib.hid (HO6.out.trans ho)
  have HL7 : Hid (LW w g (0 + 20 + 24 + 80 + 1 + 1) w7) := Lib.hid (HL5.out.only HO7.out hD)
  have HZ7 : Hid (Blk w7 gz 25 #[.int .i64 o, .slice A l.length c]) := Lib.hid (by
    obtain ⟨dcs, hd⟩ := HL5.out.deck.blk
    exact HZ5.out.grown HO7.out (fun e => by
      injection e with e
      exact Blk.ne_ HZ5.out hd (by decide) e))
  have HR7 : Hid (RdP w7 w7.heap.size A l) := Lib.hid (Rd.more (Rd.only' HR5.out HO7.out (Nat.le_refl _) HNe.out) HO7.out.size)
  have HT7 : Hid (RdT w7 w7.heap.size A1 pl) := Lib.hid (own_rd3 (row_only HT5.out HO7.out HL5.out.deck))
  have HP7 : Hid (RdPr w7 A4 ps) := Lib.hid (ownPs_rd (ownPs_only HS5.out HO7.out HL5.out.deck))
  clear hv ho hD HO6 HD6 HL5 HZ5 HR5 HT5 HS5 HO7 HNe
  have z0 : w7.cell? ⟨gz, 0, none⟩ = some (.int .i64 o) := by have := HZ7.out.cell 0; simpa using this
  have z1 : w7.cell? ⟨gz, 1, none⟩ = some (.slice A l.length c) := by have := HZ7.out.cell 1; simpa using this
  go_wp2_with fail
  refine ((assign_any o A c l.length l A1 c1 pl.length pl A4 c4 ps.length ps u v _ (Lib.hid rfl) (Lib.hid rfl) (Lib.hid rfl) HR7.out HZL.out HT7.out (by omega) HP7.out (by omega)).mono (fun e w' h => asAny_of h)).mono ?_
  rintro e w8 ⟨hb8, A9, n9, c9, rfl, H0, H1⟩
  obtain ⟨ev, Hev⟩ : ∃ x, Hid (x = asE o l pl ps u v) := ⟨_, Lib.hid rfl⟩
  rw [← Hev.out] at H0 H1 ⊢
  have HvE : Hid (ev = vE o l pl) := Lib.hid (by rw [Hev.out]; exact asE_made HPV.out ⟨hu2.1, hu2.2, hv2.1, hv2.2⟩)
  have HZ8 : Hid (Blk w8 gz 25 #[.int .i64 o, .slice A l.length c]) := Lib.hid (HZ7.out.below hb8 HZ7.out.lt)
  have HR8 : Hid (RdP w8 w8.heap.size A l) := Lib.hid (rdP_up HR7 hb8)
  have HT8 : Hid (RdT w8 w8.heap.size A1 pl) := Lib.hid (rdT_up HT7 hb8)
  have HBw8 : Hid (Below w.heap.size w w8) := Lib.hid (HL7.out.below.trans (hb8.mono HL7.out.below.size))
  clear z0 z1 hb8 HL7 HZ7 HR7 HT7 HP7 HPV
  by_cases he : ev = 0
  rotate_left
  · have he1 : ev = 1 := by
      have h := plan_vE HV.out HPK.out
      rw [← HvE.out] at h
      omega
    subst he1
    obtain ⟨hA9, hn9, hc9⟩ := H1 (by decide)
    subst hA9 hn9 hc9
    clear H0 H1
    go_wp2
    go_loopw [11] (fun i wr => i = .int .i64 0 ∧ Below w8.heap.size w8 wr) (fun _ _ => 0)
    case atStart => exact ⟨rfl, Below.refl _ _⟩
    case round =>
      obtain ⟨rfl, hbr⟩ := hrel
      have HW : Hid (Below w.heap.size w wr) := Lib.hid (HBw8.out.trans (hbr.mono HBw8.out.size))
      clear hbr
      go_wp2_with fail
      refine (sane_any _).mono ?_
      rintro e x2 ⟨rfl, hb⟩
      have HW2 := Lib.hid (HW.out.trans (hb.mono HW.out.size))
      clear hb
      go_wp2
      go_ret
      exact ⟨rfl, HW2.out⟩
  subst he
  obtain ⟨ds, Hds⟩ : ∃ x, Hid (x = asL o l pl ps u v) := ⟨_, Lib.hid rfl⟩
  have h0 := H0 rfl
  rw [← Hds.out] at h0
  have Hn9 : Hid (n9 = ds.length) := Lib.hid h0.1
  have HDu : Hid (RdDu w8 A9 ds) := Lib.hid h0.2
  obtain ⟨S, HS⟩ : ∃ x, Hid (x = spL o l pl pl.length) := ⟨_, Lib.hid rfl⟩
  have HSL : Hid (S.length = pl.length) := Lib.hid (by rw [HS.out, spL_len])
  have Hds2 : Hid (ds = asTo o l pl S u v ps ps.length) := Lib.hid (by rw [Hds.out, HS.out]; rfl)
  have HDv : Hid (DivI ps ps.length ds) := Lib.hid (by rw [Hds2.out]; exact as_div HPO.out _ (Nat.le_refl _))
  have HKy : Hid (KeyI o l pl S u v ds) := Lib.hid (by rw [Hds2.out]; exact as_key _)
  have HUL : Hid (∀ i, (uP ds i).length ≤ 7) := Lib.hid (by rw [Hds2.out]; exact fun i => Nat.le_trans (uP_len _ i) hp7)
  have hn9 : n9 ≤ 7 := by rw [Hn9.out, Hds2.out]; exact Nat.le_trans (as_len _) hp7
  have HFb : Hid (∀ i j, i < ds.length → j < (uP ds i).length → 0 ≤ pF (uP ds i) j ∧ pF (uP ds i) j ≤ 120968639) := Lib.hid (fun i j hi hj => by
    obtain ⟨m, hm, e1, _⟩ := HDv.out.fnd i j hi hj
    rw [e1]
    exact pF_bd (fun i hi => HPO.out i (by omega) : prOk ps (m + 1)) hm)
  have HBl : Hid (∀ i, i < ds.length → -1 ≤ uS ds i ∧ uS ds i < pl.length ∧ (0 ≤ uS ds i → uD ds i = tA pl (uS ds i).toNat)) := Lib.hid (fun i hi => by
    obtain ⟨h1, h2⟩ := HKy.out.key i 0 hi (HDv.out.ne i hi)
    have hb := bl_bd S (pF (uP ds i) 0) u v S.length
    have e : kS S (pF (uP ds i) 0) u v = (blTo S (pF (uP ds i) 0) u v S.length).1 := rfl
    rw [HSL.out] at hb e
    refine ⟨by omega, by omega, fun h => ?_⟩
    rw [h2, h1]
    rw [h1] at h
    unfold kD
    unfold kS at h ⊢
    rw [if_pos h])
  have HV0 : Hid (vE o l pl = 0) := Lib.hid HvE.out.symm
  have HSp : Hid (∀ x, x < pl.length → spA o l (tA pl x) (tB pl x) (tC pl x) = fst2 S x ∧ spB o l (tA pl x) (tB pl x) (tC pl x) = snd2 S x ∧ spE o l (tA pl x) (tB pl x) (tC pl x) = 0 ∧ 0 ≤ fst2 S x ∧ fst2 S x ≤ 120968640 ∧ 0 ≤ snd2 S x ∧ snd2 S x ≤ 120970080) := Lib.hid (fun x hx => by
    have h := spL_at (o := o) (zl := l) (l := pl) pl.length x hx
    have hs := vE_sE HV0.out hx
    have hb := sp_bd HV.out hs
    rw [HS.out, h.1, h.2]
    exact ⟨rfl, rfl, hs, hb.1, hb.2.1, hb.2.2.1, hb.2.2.2.1⟩)
  clear h0 H0 H1 Hds Hds2 Hev HvE HPK HPO
  go_wp2
  go_loopw [11] (fun i wr => ∃ k : Nat, k ≤ n9 ∧ i = .int .i64 k ∧ Below w8.heap.size w8 wr) (fun i _ => n9 - (intOf i).toNat)
  case atStart => exact ⟨0, Nat.zero_le _, rfl, Below.refl _ _⟩
  case round =>
    obtain ⟨k, hk, rfl, hbk⟩ := hrel
    have HBk := Lib.hid hbk
    clear hbk
    by_cases hkn : k < n9
    · have hkd : k < ds.length := by rw [← Hn9.out]; exact hkn
      obtain ⟨gD, hA9⟩ := du_addr HDu hkd
      subst hA9
      obtain ⟨mi, Hmi⟩ : ∃ x, Hid (x = (uP ds k).length) := ⟨_, Lib.hid rfl⟩
      have hmi : mi ≤ 7 := by rw [Hmi.out]; exact HUL.out k
      obtain ⟨B, cb, d0, d1, _, _⟩ := du_cells HDu HBk.out hkd
      have HD0 := Lib.hid d0
      have HD1 := Lib.hid d1
      have hbl := HBl.out k hkd
      clear d0 d1
      go_upto_region 8 with (fail)
      by_cases hsn : 0 ≤ uS ds k
      · obtain ⟨s, hs⟩ : ∃ s : Nat, uS ds k = s := ⟨(uS ds k).toNat, by omega⟩
        have hspl : s < pl.length := by have := hbl.2.1; omega
        obtain ⟨gL, oL, hA1, p0, p1, p2⟩ := shift_cells HT8 HBk.out hspl
        subst hA1
        have hdy := hbl.2.2 hsn
        rw [hs] at HD0 hdy
        rw [Int.toNat_natCast] at hdy
        rw [hdy] at HD1
        have HUs : Hid (uS ds k = s) := Lib.hid hs
        have HPp := Lib.hid p0
        clear p0 p1 p2 hdy hs hsn hbl
        refine near8b 8 (by kernel_rfl) rfl rfl rfl rfl rfl rfl rfl rfl rfl rfl rfl rfl rfl rfl rfl rfl rfl rfl rfl rfl rfl rfl rfl rfl rfl rfl rfl rfl rfl rfl rfl rfl rfl rfl rfl rfl rfl rfl rfl rfl rfl (show 194 ≤ 194 from by decide) (fun _ _ _ _ _ h => h) rfl rfl rfl hkn hspl HD0.out HD1.out HPp.out ?_
        intro z0 z1 z2 z3 z4 z5 z6 z7 z8 z9 z10 z11 z12 z13 z14 z15 z16 z17 z18 z19 z20 z21 z22 z23 z24 z25 z26 z27 z28 z29 z30 z31 z32 z33 z34 z35 z36 z37 z38 z39 w9 HB9
        simp only [Act.put, List.setIfInBounds_toArray, List.set_cons_zero, List.set_cons_succ]
        have HBk9 : Hid (Below w8.heap.size w8 w9) := Lib.hid (HBk.out.trans (HB9.out.mono HBk.out.size))
        clear HD0 HD1 HPp HB9 HBk
        go_wp2
        go_loopw [12] (fun j wq => ∃ q : Nat, q ≤ mi ∧ j = .int .i64 q ∧ Below w8.heap.size w8 wq) (fun j _ => mi - (intOf j).toNat)
        case atStart => exact ⟨0, Nat.zero_le _, rfl, HBk9.out⟩
        case round =>
          obtain ⟨q, hq, rfl, hbq⟩ := hrel
          have HBq := Lib.hid hbq
          clear hbq
          obtain ⟨B, cb, _, _, d2, hpr⟩ := du_cells HDu HBq.out hkd
          rw [← Hmi.out] at d2
          by_cases hqm : q < mi
          · have hqu : q < (uP ds k).length := by rw [← Hmi.out]; exact hqm
            obtain ⟨f, Hf⟩ : ∃ x, Hid (x = pF (uP ds k) q) := ⟨_, Lib.hid rfl⟩
            have hfb := HFb.out k q hkd hqu
            rw [← Hf.out] at hfb
            have HUf : Hid (uS ds k = blV S f u v) := Lib.hid (by rw [Hf.out]; exact (HKy.out.key k q hkd hqu).1)
            obtain ⟨gP, oP, B2, m2, c2, rfl, hpa⟩ := pr_cells (Lib.hid hpr) (Below.refl _ _) hqu
            have f0 := hpa.c0
            rw [← Hf.out] at f0
            clear hpr hpa
            go_wp2
            clear d2 f0
            go_loopw [14] (fun xv wx => ∃ x : Nat, x ≤ pl.length ∧ xv = .int .i64 x ∧ Below w8.heap.size w8 wx) (fun xv _ => pl.length - (intOf xv).toNat)
            case atStart => exact ⟨0, Nat.zero_le _, rfl, HBq.out⟩
            case round =>
              obtain ⟨x, hx, rfl, hbx⟩ := hrel
              have HBx := Lib.hid hbx
              clear hbx
              by_cases hxl : x < pl.length
              · obtain ⟨gx, ox, hA1, p0, p1, p2⟩ := shift_cells HT8 HBx.out hxl
                injection hA1 with hA1
                injection hA1 with hA1 hA2
                subst hA1 hA2
                have hsx := HSp.out x hxl
                obtain ⟨dx, Hdx⟩ : ∃ z, Hid (z = tA pl x) := ⟨_, Lib.hid rfl⟩
                obtain ⟨sx, Hsx⟩ : ∃ z, Hid (z = tB pl x) := ⟨_, Lib.hid rfl⟩
                obtain ⟨mx, Hmx⟩ : ∃ z, Hid (z = tC pl x) := ⟨_, Lib.hid rfl⟩
                obtain ⟨ax, Hax⟩ : ∃ z, Hid (z = fst2 S x) := ⟨_, Lib.hid rfl⟩
                obtain ⟨bx, Hbx⟩ : ∃ z, Hid (z = snd2 S x) := ⟨_, Lib.hid rfl⟩
                rw [← Hdx.out, ← Hsx.out, ← Hmx.out, ← Hax.out, ← Hbx.out] at hsx
                rw [← Hdx.out] at p0
                rw [← Hsx.out] at p1
                rw [← Hmx.out] at p2
                have HQ0 := Lib.hid p0
                have HQ1 := Lib.hid p1
                have HQ2 := Lib.hid p2
                have Ha : Hid (ax = spA o l dx sx mx) := Lib.hid hsx.1.symm
                have Hb : Hid (bx = spB o l dx sx mx) := Lib.hid hsx.2.1.symm
                have He : Hid (0 = spE o l dx sx mx) := Lib.hid hsx.2.2.1.symm
                have hax : 0 ≤ ax ∧ ax ≤ 120968640 := ⟨hsx.2.2.2.1, hsx.2.2.2.2.1⟩
                have hbx : 0 ≤ bx ∧ bx ≤ 120970080 := ⟨hsx.2.2.2.2.2.1, hsx.2.2.2.2.2.2⟩
                have HZx := Lib.hid (HZ8.out.below HBx.out HZ8.out.lt)
                clear p0 p1 p2 hsx
                go_upto_region 17 with (fail)
                refine near17 (o := o) (d := dx) (st := sx) (mi := mx) (x := ax) (y := bx) (e_ := 0) 17 (by kernel_rfl) rfl rfl rfl rfl rfl rfl rfl rfl rfl rfl rfl rfl (show 194 ≤ 194 from by decide) (fun _ _ _ _ _ h => h) rfl rfl rfl hxl (HZx.out.cell 0) (HZx.out.cell 1) HQ0.out HQ1.out HQ2.out (fun W hW => span_at (Lib.hid rfl) (rdP_up HR8 (HBx.out.trans (hW.mono HBx.out.size))) HZL Ha Hb He) ?_
                intro z0 z1 z2 z3 z4 z5 z6 z7 z8 gs w10 HBs HW10 Hgs
                simp only [Act.put, List.setIfInBounds_toArray, List.set_cons_zero, List.set_cons_succ]
                have HB10 : Hid (Below w8.heap.size w8 w10) := Lib.hid (HBx.out.trans (HW10.out.mono HBx.out.size))
                have s0 : w10.cell? ⟨gs, 0, none⟩ = some (.int .i64 ax) := by have := HBs.out.cell 0; simpa using this
                have s1 : w10.cell? ⟨gs, 1, none⟩ = some (.int .i64 bx) := by have := HBs.out.cell 1; simpa using this
                clear HQ0 HQ1 HQ2 HZx HW10 Hgs HBs HBx
                go_upto_region 20 with (fail)
                go_cut [17] (fun s wx => s = .bool (decide (canB ax bx f u v)) ∧ wx = w10)
                case first =>
                  by_cases e1 : ax - u ≤ f
                  · have d1 : decide (ax - u ≤ f) = true := decide_eq_true e1
                    by_cases e2 : f ≤ ax + v
                    · have d2 : decide (f ≤ ax + v) = true := decide_eq_true e2
                      have hD : Hid (decide (canB ax bx f u v) = true) := Lib.hid (decide_eq_true (.inl ⟨by omega, by omega⟩))
                      go_wp2_with fail
                      go_meet
                      exact ⟨by rw [hD.out], rfl⟩
                    · have d2 : decide (f ≤ ax + v) = false := decide_eq_false e2
                      have d3 : decide (ax ≤ f) = true := decide_eq_true (by omega)
                      by_cases e4 : f < bx
                      · have d4 : decide (f < bx) = true := decide_eq_true e4
                        have hD : Hid (decide (canB ax bx f u v) = true) := Lib.hid (decide_eq_true (.inr ⟨by omega, e4⟩))
                        go_wp2_with fail
                        go_meet
                        exact ⟨by rw [hD.out], rfl⟩
                      · have d4 : decide (f < bx) = false := decide_eq_false e4
                        have hD : Hid (decide (canB ax bx f u v) = false) := Lib.hid (decide_eq_false (fun h => by unfold canB at h; omega))
                        go_wp2_with fail
                        go_meet
                        exact ⟨by rw [hD.out], rfl⟩
                  · have d1 : decide (ax - u ≤ f) = false := decide_eq_false e1
                    have d3 : decide (ax ≤ f) = false := decide_eq_false (by omega)
                    have hD : Hid (decide (canB ax bx f u v) = false) := Lib.hid (decide_eq_false (fun h => by unfold canB at h; omega))
                    go_wp2_with fail
                    go_meet
                    exact ⟨by rw [hD.out], rfl⟩
                case rest =>
                  obtain ⟨hs17, hwc⟩ := hcut
                  rw [hs17, hwc]
                  clear hs17 hwc
                  clear s0 s1
                  by_cases hcan : canB ax bx f u v
                  · have hnr := near_law (S := S) (t := f) (early := u) (late := v) (n := x) (by rw [HSL.out]; exact hxl) (by rw [← Hax.out, ← Hbx.out]; exact hcan)
                    rw [← HUf.out] at hnr
                    rw [HUs.out, Int.toNat_natCast, ← Hax.out] at hnr
                    have hD : decide (canB ax bx f u v) = true := decide_eq_true hcan
                    rw [hD]
                    clear hD
                    obtain ⟨gx, ox, hA1, p0, p1, p2⟩ := shift_cells HT8 HB10.out hxl
                    injection hA1 with hA1
                    injection hA1 with hA1 hA2
                    subst hA1 hA2
                    obtain ⟨gx, ox, hA1, r0, r1, r2⟩ := shift_cells HT8 HB10.out hspl
                    injection hA1 with hA1
                    injection hA1 with hA1 hA2
                    subst hA1 hA2
                    have hss := HSp.out s hspl
                    have HQ0 : Hid (w10.cell? ⟨gL, oL + x * 3, none⟩ = some (.int .i64 dx)) := Lib.hid (by rw [Hdx.out]; exact p0)
                    have HQ1 : Hid (w10.cell? ⟨gL, oL + x * 3 + 1, none⟩ = some (.int .i64 sx)) := Lib.hid (by rw [Hsx.out]; exact p1)
                    have HQ2 : Hid (w10.cell? ⟨gL, oL + x * 3 + 2, none⟩ = some (.int .i64 mx)) := Lib.hid (by rw [Hmx.out]; exact p2)
                    have HS0 := Lib.hid r0
                    have HS1 := Lib.hid r1
                    have HS2 := Lib.hid r2
                    obtain ⟨as_, Has⟩ : ∃ z, Hid (z = fst2 S s) := ⟨_, Lib.hid rfl⟩
                    have Has2 : Hid (as_ = spA o l (tA pl s) (tB pl s) (tC pl s)) := Lib.hid (by rw [Has.out, hss.1])
                    have has : 0 ≤ as_ ∧ as_ ≤ 120968640 := by rw [Has.out]; exact ⟨hss.2.2.2.1, hss.2.2.2.2.1⟩
                    rw [← Has.out] at hnr
                    have HLe : Hid (absI (f - as_) ≤ absI (f - ax)) := Lib.hid hnr.2
                    obtain ⟨B, cb, d0, _, _, _⟩ := du_cells HDu HB10.out hkd
                    rw [HUs.out] at d0
                    have HD0 := Lib.hid d0
                    have HZ10 := Lib.hid (HZ8.out.below HB10.out HZ8.out.lt)
                    clear p0 p1 p2 r0 r1 r2 d0 hss hnr
                    go_upto_region 21 with (fail)
                    refine near21b (f := f) (fs := absI (f - as_)) (fq := absI (f - ax)) 21 (by kernel_rfl) rfl rfl rfl rfl rfl rfl rfl rfl rfl rfl rfl rfl rfl rfl rfl rfl rfl rfl rfl rfl rfl rfl rfl rfl rfl rfl rfl rfl rfl rfl (show 194 ≤ 194 from by decide) (fun _ _ _ _ _ h => h) rfl rfl rfl rfl rfl rfl rfl hkn hspl hxl (HZ10.out.cell 0) (HZ10.out.cell 1) HD0.out HS0.out HS1.out HS2.out HQ0.out HQ1.out HQ2.out (fun W hW => far_any (Lib.hid rfl) (rdP_up HR8 (HB10.out.trans (hW.mono HB10.out.size))) HZL Has2 has.1 (by omega) hfb.1 (by omega)) (fun W hW => far_any (Lib.hid rfl) (rdP_up HR8 (HB10.out.trans (hW.mono HB10.out.size))) HZL Ha hax.1 (by omega) hfb.1 (by omega)) HLe.out ?_
                    intro z0 z1 z2 z3 z4 z5 z6 z7 z8 z9 z10 z11 z12 z13 z14 z15 z16 z17 z18 z19 z20 z21 z22 z23 z24 z25 z26 z27 z28 w11 HB11
                    simp only [Act.put, List.setIfInBounds_toArray, List.set_cons_zero, List.set_cons_succ]
                    have HBx11 : Hid (Below w8.heap.size w8 w11) := Lib.hid (HB10.out.trans (HB11.out.mono HB10.out.size))
                    clear HB11 HB10 HQ0 HQ1 HQ2 HS0 HS1 HS2 HD0 HZ10 HLe Has Has2
                    go_wp2
                    go_roundw
                    case rel => exact ⟨x + 1, by omega, by go_num, HBx11.out⟩
                    case measure => simp [intOf]; omega
                  · have hD : decide (canB ax bx f u v) = false := decide_eq_false hcan
                    rw [hD]
                    clear hD
                    go_upto_region 21 with (fail)
                    refine near21a 21 (by kernel_rfl) rfl rfl rfl rfl rfl rfl rfl rfl rfl rfl rfl rfl rfl rfl rfl rfl rfl rfl rfl rfl rfl rfl rfl rfl rfl rfl rfl rfl rfl rfl (show 194 ≤ 194 from by decide) (fun _ _ _ _ _ h => h) rfl ?_
                    intro z0 z1 z2 z3 z4 z5 z6 z7 z8 z9 z10 z11 z12 z13 z14 z15 z16 z17 z18 z19 z20 z21 z22 z23 z24 z25 z26 z27 z28 w11 HB11
                    simp only [Act.put, List.setIfInBounds_toArray, List.set_cons_zero, List.set_cons_succ]
                    have HBx11 : Hid (Below w8.heap.size w8 w11) := Lib.hid (HB10.out.trans (HB11.out.mono HB10.out.size))
                    clear HB11 HB10
                    go_wp2
                    go_roundw
                    case rel => exact ⟨x + 1, by omega, by go_num, HBx11.out⟩
                    case measure => simp [intOf]; omega
              · go_wp2
                go_roundw
                case rel => exact ⟨q + 1, by omega, by go_num, HBx.out⟩
                case measure => simp [intOf]; omega
          · obtain rfl : q = mi := by omega
            clear hpr
            go_wp2
            clear d2
            go_roundw
            case rel => exact ⟨k + 1, by omega, by go_num, HBq.out⟩
            case measure => simp [intOf]; omega
      · have hs : uS ds k = -1 := by omega
        rw [hs] at HD0
        have HUs : Hid (uS ds k = -1) := Lib.hid hs
        clear hs hsn hbl
        refine near8a 8 (by kernel_rfl) rfl rfl rfl rfl rfl rfl rfl rfl rfl rfl rfl rfl rfl rfl rfl rfl rfl rfl rfl rfl rfl rfl rfl rfl rfl rfl rfl rfl rfl rfl rfl rfl rfl rfl rfl rfl rfl rfl rfl rfl rfl (show 194 ≤ 194 from by decide) (fun _ _ _ _ _ h => h) rfl rfl rfl hkn HD0.out ?_
        intro z0 z1 z2 z3 z4 z5 z6 z7 z8 z9 z10 z11 z12 z13 z14 z15 z16 z17 z18 z19 z20 z21 z22 z23 z24 z25 z26 z27 z28 z29 z30 z31 z32 z33 z34 z35 z36 z37 z38 z39 w9 HB9
        simp only [Act.put, List.setIfInBounds_toArray, List.set_cons_zero, List.set_cons_succ]
        have HBk9 : Hid (Below w8.heap.size w8 w9) := Lib.hid (HBk.out.trans (HB9.out.mono HBk.out.size))
        clear HD0 HD1 HB9 HBk
        go_wp2
        go_loopw [12] (fun j wq => ∃ q : Nat, q ≤ mi ∧ j = .int .i64 q ∧ Below w8.heap.size w8 wq) (fun j _ => mi - (intOf j).toNat)
        case atStart => exact ⟨0, Nat.zero_le _, rfl, HBk9.out⟩
        case round =>
          obtain ⟨q, hq, rfl, hbq⟩ := hrel
          have HBq := Lib.hid hbq
          clear hbq
          obtain ⟨B, cb, _, _, d2, hpr⟩ := du_cells HDu HBq.out hkd
          rw [← Hmi.out] at d2
          by_cases hqm : q < mi
          · have hqu : q < (uP ds k).length := by rw [← Hmi.out]; exact hqm
            obtain ⟨f, Hf⟩ : ∃ x, Hid (x = pF (uP ds k) q) := ⟨_, Lib.hid rfl⟩
            have hfb := HFb.out k q hkd hqu
            rw [← Hf.out] at hfb
            have HUf : Hid (uS ds k = blV S f u v) := Lib.hid (by rw [Hf.out]; exact (HKy.out.key k q hkd hqu).1)
            obtain ⟨gP, oP, B2, m2, c2, rfl, hpa⟩ := pr_cells (Lib.hid hpr) (Below.refl _ _) hqu
            have f0 := hpa.c0
            rw [← Hf.out] at f0
            clear hpr hpa
            go_wp2
            clear d2 f0
            go_loopw [14] (fun xv wx => ∃ x : Nat, x ≤ pl.length ∧ xv = .int .i64 x ∧ Below w8.heap.size w8 wx) (fun xv _ => pl.length - (intOf xv).toNat)
            case atStart => exact ⟨0, Nat.zero_le _, rfl, HBq.out⟩
            case round =>
              obtain ⟨x, hx, rfl, hbx⟩ := hrel
              have HBx := Lib.hid hbx
              clear hbx
              by_cases hxl : x < pl.length
              · obtain ⟨gL, oL, hA1, p0, p1, p2⟩ := shift_cells HT8 HBx.out hxl
                subst hA1
                have hsx := HSp.out x hxl
                obtain ⟨dx, Hdx⟩ : ∃ z, Hid (z = tA pl x) := ⟨_, Lib.hid rfl⟩
                obtain ⟨sx, Hsx⟩ : ∃ z, Hid (z = tB pl x) := ⟨_, Lib.hid rfl⟩
                obtain ⟨mx, Hmx⟩ : ∃ z, Hid (z = tC pl x) := ⟨_, Lib.hid rfl⟩
                obtain ⟨ax, Hax⟩ : ∃ z, Hid (z = fst2 S x) := ⟨_, Lib.hid rfl⟩
                obtain ⟨bx, Hbx⟩ : ∃ z, Hid (z = snd2 S x) := ⟨_, Lib.hid rfl⟩
                rw [← Hdx.out, ← Hsx.out, ← Hmx.out, ← Hax.out, ← Hbx.out] at hsx
                rw [← Hdx.out] at p0
                rw [← Hsx.out] at p1
                rw [← Hmx.out] at p2
                have HQ0 := Lib.hid p0
                have HQ1 := Lib.hid p1
                have HQ2 := Lib.hid p2
                have Ha : Hid (ax = spA o l dx sx mx) := Lib.hid hsx.1.symm
                have Hb : Hid (bx = spB o l dx sx mx) := Lib.hid hsx.2.1.symm
                have He : Hid (0 = spE o l dx sx mx) := Lib.hid hsx.2.2.1.symm
                have hax : 0 ≤ ax ∧ ax ≤ 120968640 := ⟨hsx.2.2.2.1, hsx.2.2.2.2.1⟩
                have hbx : 0 ≤ bx ∧ bx ≤ 120970080 := ⟨hsx.2.2.2.2.2.1, hsx.2.2.2.2.2.2⟩
                have HZx := Lib.hid (HZ8.out.below HBx.out HZ8.out.lt)
                clear p0 p1 p2 hsx
                go_upto_region 17 with (fail)
                refine near17 (o := o) (d := dx) (st := sx) (mi := mx) (x := ax) (y := bx) (e_ := 0) 17 (by kernel_rfl) rfl rfl rfl rfl rfl rfl rfl rfl rfl rfl rfl rfl (show 194 ≤ 194 from by decide) (fun _ _ _ _ _ h => h) rfl rfl rfl hxl (HZx.out.cell 0) (HZx.out.cell 1) HQ0.out HQ1.out HQ2.out (fun W hW => span_at (Lib.hid rfl) (rdP_up HR8 (HBx.out.trans (hW.mono HBx.out.size))) HZL Ha Hb He) ?_
                intro z0 z1 z2 z3 z4 z5 z6 z7 z8 gs w10 HBs HW10 Hgs
                simp only [Act.put, List.setIfInBounds_toArray, List.set_cons_zero, List.set_cons_succ]
                have HB10 : Hid (Below w8.heap.size w8 w10) := Lib.hid (HBx.out.trans (HW10.out.mono HBx.out.size))
                have s0 : w10.cell? ⟨gs, 0, none⟩ = some (.int .i64 ax) := by have := HBs.out.cell 0; simpa using this
                have s1 : w10.cell? ⟨gs, 1, none⟩ = some (.int .i64 bx) := by have := HBs.out.cell 1; simpa using this
                clear HQ0 HQ1 HQ2 HZx HW10 Hgs HBs HBx
                go_upto_region 20 with (fail)
                go_cut [17] (fun s wx => s = .bool (decide (canB ax bx f u v)) ∧ wx = w10)
                case first =>
                  by_cases e1 : ax - u ≤ f
                  · have d1 : decide (ax - u ≤ f) = true := decide_eq_true e1
                    by_cases e2 : f ≤ ax + v
                    · have d2 : decide (f ≤ ax + v) = true := decide_eq_true e2
                      have hD : Hid (decide (canB ax bx f u v) = true) := Lib.hid (decide_eq_true (.inl ⟨by omega, by omega⟩))
                      go_wp2_with fail
                      go_meet
                      exact ⟨by rw [hD.out], rfl⟩
                    · have d2 : decide (f ≤ ax + v) = false := decide_eq_false e2
                      have d3 : decide (ax ≤ f) = true := decide_eq_true (by omega)
                      by_cases e4 : f < bx
                      · have d4 : decide (f < bx) = true := decide_eq_true e4
                        have hD : Hid (decide (canB ax bx f u v) = true) := Lib.hid (decide_eq_true (.inr ⟨by omega, e4⟩))
                        go_wp2_with fail
                        go_meet
                        exact ⟨by rw [hD.out], rfl⟩
                      · have d4 : decide (f < bx) = false := decide_eq_false e4
                        have hD : Hid (decide (canB ax bx f u v) = false) := Lib.hid (decide_eq_false (fun h => by unfold canB at h; omega))
                        go_wp2_with fail
                        go_meet
                        exact ⟨by rw [hD.out], rfl⟩
                  · have d1 : decide (ax - u ≤ f) = false := decide_eq_false e1
                    have d3 : decide (ax ≤ f) = false := decide_eq_false (by omega)
                    have hD : Hid (decide (canB ax bx f u v) = false) := Lib.hid (decide_eq_false (fun h => by unfold canB at h; omega))
                    go_wp2_with fail
                    go_meet
                    exact ⟨by rw [hD.out], rfl⟩
                case rest =>
                  obtain ⟨hs17, hwc⟩ := hcut
                  rw [hs17, hwc]
                  clear hs17 hwc
                  clear s0 s1
                  by_cases hcan : canB ax bx f u v
                  · exfalso
                    have hnr := near_law (S := S) (t := f) (early := u) (late := v) (n := x) (by rw [HSL.out]; exact hxl) (by rw [← Hax.out, ← Hbx.out]; exact hcan)
                    rw [← HUf.out] at hnr
                    rw [HUs.out] at hnr
                    omega
                  · have hD : decide (canB ax bx f u v) = false := decide_eq_false hcan
                    rw [hD]
                    clear hD
                    go_upto_region 21 with (fail)
                    refine near21a 21 (by kernel_rfl) rfl rfl rfl rfl rfl rfl rfl rfl rfl rfl rfl rfl rfl rfl rfl rfl rfl rfl rfl rfl rfl rfl rfl rfl rfl rfl rfl rfl rfl rfl (show 194 ≤ 194 from by decide) (fun _ _ _ _ _ h => h) rfl ?_
                    intro z0 z1 z2 z3 z4 z5 z6 z7 z8 z9 z10 z11 z12 z13 z14 z15 z16 z17 z18 z19 z20 z21 z22 z23 z24 z25 z26 z27 z28 w11 HB11
                    simp only [Act.put, List.setIfInBounds_toArray, List.set_cons_zero, List.set_cons_succ]
                    have HBx11 : Hid (Below w8.heap.size w8 w11) := Lib.hid (HB10.out.trans (HB11.out.mono HB10.out.size))
                    clear HB11 HB10
                    go_wp2
                    go_roundw
                    case rel => exact ⟨x + 1, by omega, by go_num, HBx11.out⟩
                    case measure => simp [intOf]; omega
              · go_wp2
                go_roundw
                case rel => exact ⟨q + 1, by omega, by go_num, HBx.out⟩
                case measure => simp [intOf]; omega
          · obtain rfl : q = mi := by omega
            clear hpr
            go_wp2
            clear d2
            go_roundw
            case rel => exact ⟨k + 1, by omega, by go_num, HBq.out⟩
            case measure => simp [intOf]; omega
    · have HW : Hid (Below w.heap.size w wr) := Lib.hid (HBw8.out.trans (HBk.out.mono HBw8.out.size))
      obtain rfl : k = n9 := by omega
      go_wp2_with fail
      refine (sane_any _).mono ?_
      rintro e x2 ⟨rfl, hb⟩
      have HW := Lib.hid (HW.out.trans (hb.mono HW.out.size))
      clear hb
      go_wp2
      go_ret
      exact ⟨rfl, HW.out⟩
end Go.Proofs.Ytagkdkkpgcolkaa
