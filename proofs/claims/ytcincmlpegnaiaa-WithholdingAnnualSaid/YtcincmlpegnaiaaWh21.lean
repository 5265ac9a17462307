/-
  Chapter 30: the walk of the law WithholdingAnnual.
-/
import Derived.Test.YtcincmlpegnaiaaWh18
import Derived.Test.YtcincmlpegnaiaaOpen
import Derived.Deep.RegionHeld3
import Derived.Deep.DeepCutAuto
namespace Go.Proofs.Ytcincmlpegnaiaa
open Go.RowKit
set_option linter.unusedVariables false
set_option linter.unusedSimpArgs false


structure AN (w : World) (g : Nat) (N : Int) (tb : Nat) (t : TF) (L : TL) (bi : Nat) (il : List Int) (bc : Nat) (cl : List Int) (W : World) : Prop where
  lw : LW w g N tb t L W
  ib : Blk W bi 3 (il.map (Value.int .i64)).toArray
  cb : Blk W bc 3 (cl.map (Value.int .i64)).toArray
  il3 : il.length = 3
  cl3 : cl.length = 3
section
variable {w W W' : World} {g tb bi bc j : Nat} {N : Int} {t : TF} {L : TL} {il cl : List Int}
theorem AN.calc_ (h : AN w g N tb t L bi il bc cl W) (hb : Below W.heap.size W W') : AN w g N tb t L bi il bc cl W' := ⟨h.lw.calc_ hb, h.ib.below hb h.ib.lt, h.cb.below hb h.cb.lt, h.il3, h.cl3⟩
theorem AN.drew (h : AN w g N tb t L bi il bc cl W) : AN w g N tb t L bi il bc cl W.drew := h.calc_ (below_drewN (Below.refl _ _) 1)
theorem AN.icell (h : AN w g N tb t L bi il bc cl W) (hj : j < 3) : W.cell? ⟨bi, j, none⟩ = some (.int .i64 (at1 il j)) := by
  rw [h.ib.cell j]
  have := h.il3
  simp [at1, show j < il.length by omega]
theorem AN.ccell (h : AN w g N tb t L bi il bc cl W) (hj : j < 3) : W.cell? ⟨bc, j, none⟩ = some (.int .i64 (at1 cl j)) := by
  rw [h.cb.cell j]
  have := h.cl3
  simp [at1, show j < cl.length by omega]
end
set_option maxHeartbeats 3200000 in
set_option maxRecDepth 100000 in
theorem withholdingAnnual_walk (A0 : Option Addr) (c0 : Nat) (l0 : List Int) (inc cnt : Int) (w : World) (hr0 : RdI w w.heap.size A0 l0) (hl0 : l0.length ≤ 9223372036854775807) (hb0 : ∀ i, i < l0.length → InR (at1 l0 i)) (h1 : InR inc) (h2 : InR cnt) :
    Calls Try.prog 8 #[.slice A0 l0.length c0, .int .i64 inc, .int .i64 cnt] w (RetB true w) := by
  clear hb0
  go_enter Try.func8, Try.ntmps8
  clear h1 h2
  go_wp2_with fail
  refine (new_any A0 c0 l0 w hr0 hl0).mono ?_
  rintro e w1 ⟨rfl, hb1, hD1, hs1⟩
  have HB1 := Lib.hid hb1
  have HD1 := Lib.hid hD1
  clear hb1 hD1 hr0
  go_wp2_with fail
  refine (tariff0_any w.heap.size 0 _ HD1.out (by omega)).mono ?_
  rintro e w2 ⟨t, L, rfl, hv, hrt, hna, hnr, ho, hD2⟩
  have HLW := Lib.hid (LW.start HB1.out hs1 ho hD2 hrt hna hnr)
  have HV := Lib.hid hv
  have hw2 : w.heap.size < w2.heap.size := by have := ho.size; omega
  clear hv hrt hna hnr ho hD2 HB1 HD1
  go_wp2_with fail
  refine (small_any w.heap.size (0 + 40) _ HLW.out.deck (by omega)).mono ?_
  rintro e w3 ⟨v3, rfl, hv3, ho, hD'⟩
  have HLW := Lib.hid (HLW.out.draw ho hD')
  clear ho hD'
  go_wp2_with fail
  refine (amount_any w.heap.size (0 + 40 + 2) _ HLW.out.deck (by omega)).mono ?_
  rintro e w4 ⟨v4, rfl, hv4, ho, hD'⟩
  have HLW := Lib.hid (HLW.out.draw ho hD')
  clear ho hD'
  have hg4 := HLW.out.deck.lt
  have HIB := Lib.hid (Blk.new w4 3 #[.int .i64 (10 * v3), .int .i64 v4, .int .i64 inc])
  have HLW := Lib.hid (HLW.out.alloc (.cells #[.int .i64 (10 * v3), .int .i64 v4, .int .i64 inc] 3))
  go_wp2_with fail
  refine (pick_at w.heap.size (0 + 40 + 2 + 2) [12, 1, 53] (w4.alloc (.cells #[.int .i64 (10 * v3), .int .i64 v4, .int .i64 inc] 3)) 3 3 _ (by simp) HLW.out.deck (by omega) (by decide) (by decide)).mono ?_
  rintro e w5 ⟨c1, rfl, hx, ho, hD'⟩
  have HLW := Lib.hid (HLW.out.draw ho hD')
  have HIB := Lib.hid (HIB.out.grown ho (by intro e; injection e; omega))
  clear hx ho hD'
  go_wp2_with fail
  refine (pick_new w.heap.size (0 + 40 + 2 + 2 + 1) [12, 4, 54, 0] _ 3 4 HLW.out.deck (by omega) (by decide) (by decide)).mono ?_
  rintro e w6 ⟨c2, rfl, hx, ho, hD'⟩
  have HLW := Lib.hid (HLW.out.draw ho hD')
  have HIB := Lib.hid (HIB.out.grown ho (by intro e; injection e; omega))
  clear hx ho hD'
  obtain ⟨NN, hNN⟩ : ∃ NN : Int, NN = 0 + 40 + 2 + 2 + 1 + 1 := ⟨_, rfl⟩
  obtain ⟨bi, hbi⟩ : ∃ b, b = w4.heap.size := ⟨_, rfl⟩
  obtain ⟨bc, hbc⟩ : ∃ b, b = w6.heap.size := ⟨_, rfl⟩
  obtain ⟨il, hil⟩ : ∃ l : List Int, l = [10 * v3, v4, inc] := ⟨_, rfl⟩
  obtain ⟨cl, hcl⟩ : ∃ l : List Int, l = [c1, c2, cnt] := ⟨_, rfl⟩
  have HAN0 : Hid (AN w w.heap.size NN w2.heap.size t L bi il bc cl (w6.alloc (.cells #[.int .i64 c1, .int .i64 c2, .int .i64 cnt] 3))) := Lib.hid (by
    rw [hNN, hbi, hbc, hil, hcl]
    exact ⟨HLW.out.alloc _, by simpa using HIB.out.alloc _, by simpa using Blk.new w6 3 #[.int .i64 c1, .int .i64 c2, .int .i64 cnt], rfl, rfl⟩)
  go_wp2
  rw [← hbi, ← hbc]
  clear hbi hbc hil hcl hNN HIB HLW hg4
  go_loopw [11, 12, 13, 14, 15, 16, 17, 18, 19] (fun i _ _ _ _ _ _ _ _ wr => ∃ j : Nat, j ≤ 3 ∧ i = .int .i64 j ∧ AN w w.heap.size NN w2.heap.size t L bi il bc cl wr) (fun i _ _ _ _ _ _ _ _ _ => 3 - (intOf i).toNat)
  case atStart => exact ⟨0, Nat.zero_le _, rfl, HAN0.out⟩
  case round =>
    obtain ⟨j, hj, rfl, han⟩ := hrel
    have HAN := Lib.hid han
    clear han HAN0
    by_cases hlt : j < 3
    · have hk1 : (0 : Int) ≤ (j : Int) := by omega
      have hk2 : (j : Int) < 3 := by omega
      have HC7 : Hid (∀ W, AN w w.heap.size NN w2.heap.size t L bi il bc cl W → Calls Try.prog 32 #[.agg #[.int .i64 t.m, .slice L.Ab t.bk.length L.nb, .int .i64 t.al, .int .i64 t.cr, .int .i64 t.un, .int .i64 t.mo, .slice L.Ar t.rw.length L.nr], .int .i64 (at1 il j)] W (RetII (annV t (at1 il j)) (annE t (at1 il j)) W)) := Lib.hid (fun W h => annual_any t L _ _ h.lw.rd (Nat.le_refl _) (at1 il j))
      have HC8 : Hid (∀ W, AN w w.heap.size NN w2.heap.size t L bi il bc cl W → Calls Try.prog 33 #[.agg #[.int .i64 t.m, .slice L.Ab t.bk.length L.nb, .int .i64 t.al, .int .i64 t.cr, .int .i64 t.un, .int .i64 t.mo, .slice L.Ar t.rw.length L.nr], .int .i64 (at1 il j)] W (RetII (annV t (at1 il j)) (annE t (at1 il j)) W)) := Lib.hid (fun W h => rannual_any t L _ _ h.lw.rd (Nat.le_refl _) (at1 il j))
      have HC9 : Hid (∀ W, AN w w.heap.size NN w2.heap.size t L bi il bc cl W → Calls Try.prog 34 #[.agg #[.int .i64 t.m, .slice L.Ab t.bk.length L.nb, .int .i64 t.al, .int .i64 t.cr, .int .i64 t.un, .int .i64 t.mo, .slice L.Ar t.rw.length L.nr], .int .i64 (at1 il j), .int .i64 (at1 cl j)] W (RetII (frmV t (at1 il j) (at1 cl j)) (frmE t (at1 il j) (at1 cl j)) W)) := Lib.hid (fun W h => formula_any t L _ _ h.lw.rd (Nat.le_refl _) (at1 il j) (at1 cl j))
      have HC10 : Hid (∀ W, AN w w.heap.size NN w2.heap.size t L bi il bc cl W → Calls Try.prog 35 #[.agg #[.int .i64 t.m, .slice L.Ab t.bk.length L.nb, .int .i64 t.al, .int .i64 t.cr, .int .i64 t.un, .int .i64 t.mo, .slice L.Ar t.rw.length L.nr], .int .i64 (at1 il j), .int .i64 (at1 cl j)] W (RetII (frmV t (at1 il j) (at1 cl j)) (frmE t (at1 il j) (at1 cl j)) W)) := Lib.hid (fun W h => rformula_any t L _ _ h.lw.rd (Nat.le_refl _) (at1 il j) (at1 cl j))
      have x0 := HAN.out.lw.box.cell 0
      have x1 := HAN.out.lw.box.cell 1
      have x2 := HAN.out.lw.box.cell 2
      have x3 := HAN.out.lw.box.cell 3
      have x4 := HAN.out.lw.box.cell 4
      have x5 := HAN.out.lw.box.cell 5
      have x6 := HAN.out.lw.box.cell 6
      simp at x0 x1 x2 x3 x4 x5 x6
      have zi := HAN.out.icell hlt
      have zc := HAN.out.ccell hlt
      go_upto_region 7 with (fail)
      go_cut [12, 13] (fun a b wx => a = .int .i64 (annV t (at1 il j)) ∧ b = .int .i64 (annE t (at1 il j)) ∧ AN w w.heap.size NN w2.heap.size t L bi il bc cl wx)
      case first =>
        go_region_held3 (fun W => W.cell? ⟨w2.heap.size, 0, none⟩ = some (.int .i64 t.m) ∧ W.cell? ⟨w2.heap.size, 1, none⟩ = some (.slice L.Ab t.bk.length L.nb) ∧ W.cell? ⟨w2.heap.size, 2, none⟩ = some (.int .i64 t.al) ∧ W.cell? ⟨w2.heap.size, 3, none⟩ = some (.int .i64 t.cr) ∧ W.cell? ⟨w2.heap.size, 4, none⟩ = some (.int .i64 t.un) ∧ W.cell? ⟨w2.heap.size, 5, none⟩ = some (.int .i64 t.mo) ∧ W.cell? ⟨w2.heap.size, 6, none⟩ = some (.slice L.Ar t.rw.length L.nr) ∧ W.cell? ⟨bi, j, none⟩ = some (.int .i64 (at1 il j))) (first | exact ⟨x0, x1, x2, x3, x4, x5, x6, zi⟩ | go_keep)
          (first | (go_at_call 32; refine (HC7.out _ ?_).mono ?_; (repeat (first | exact HAN.out | apply AN.drew)); rintro e w16 ⟨rfl, hb6⟩; (first | (have hn6 := AN.calc_ HAN.out hb6) | (have hn6 := AN.calc_ (AN.drew HAN.out) hb6)); have HN6 := Lib.hid hn6; clear x0 x1 x2 x3 x4 x5 x6 zi zc; have x0 := hn6.lw.box.cell 0; have x1 := hn6.lw.box.cell 1; have x2 := hn6.lw.box.cell 2; have x3 := hn6.lw.box.cell 3; have x4 := hn6.lw.box.cell 4; have x5 := hn6.lw.box.cell 5; have x6 := hn6.lw.box.cell 6; (simp at x0 x1 x2 x3 x4 x5 x6); have zi := hn6.icell hlt; have zc := hn6.ccell hlt; clear hb6 hn6))
        all_goals go_wp2_with fail
        all_goals go_meet
        all_goals (first | exact ⟨rfl, rfl, HN6.out⟩ | exact ⟨rfl, rfl, HN6.out.drew⟩)
      case rest =>
        obtain ⟨rfl, rfl, han⟩ := hcut
        have HAN := Lib.hid han
        clear han x0 x1 x2 x3 x4 x5 x6 zi zc
        have x0 := HAN.out.lw.box.cell 0
        have x1 := HAN.out.lw.box.cell 1
        have x2 := HAN.out.lw.box.cell 2
        have x3 := HAN.out.lw.box.cell 3
        have x4 := HAN.out.lw.box.cell 4
        have x5 := HAN.out.lw.box.cell 5
        have x6 := HAN.out.lw.box.cell 6
        simp at x0 x1 x2 x3 x4 x5 x6
        have zi := HAN.out.icell hlt
        have zc := HAN.out.ccell hlt
        go_upto_region 8 with (fail)
        go_cut [14, 15] (fun a b wx => a = .int .i64 (annV t (at1 il j)) ∧ b = .int .i64 (annE t (at1 il j)) ∧ AN w w.heap.size NN w2.heap.size t L bi il bc cl wx)
        case first =>
          go_region_held3 (fun W => W.cell? ⟨w2.heap.size, 0, none⟩ = some (.int .i64 t.m) ∧ W.cell? ⟨w2.heap.size, 1, none⟩ = some (.slice L.Ab t.bk.length L.nb) ∧ W.cell? ⟨w2.heap.size, 2, none⟩ = some (.int .i64 t.al) ∧ W.cell? ⟨w2.heap.size, 3, none⟩ = some (.int .i64 t.cr) ∧ W.cell? ⟨w2.heap.size, 4, none⟩ = some (.int .i64 t.un) ∧ W.cell? ⟨w2.heap.size, 5, none⟩ = some (.int .i64 t.mo) ∧ W.cell? ⟨w2.heap.size, 6, none⟩ = some (.slice L.Ar t.rw.length L.nr) ∧ W.cell? ⟨bi, j, none⟩ = some (.int .i64 (at1 il j))) (first | exact ⟨x0, x1, x2, x3, x4, x5, x6, zi⟩ | go_keep)
            (first | (go_at_call 33; refine (HC8.out _ ?_).mono ?_; (repeat (first | exact HAN.out | apply AN.drew)); rintro e w16 ⟨rfl, hb6⟩; (first | (have hn6 := AN.calc_ HAN.out hb6) | (have hn6 := AN.calc_ (AN.drew HAN.out) hb6)); have HN6 := Lib.hid hn6; clear x0 x1 x2 x3 x4 x5 x6 zi zc; have x0 := hn6.lw.box.cell 0; have x1 := hn6.lw.box.cell 1; have x2 := hn6.lw.box.cell 2; have x3 := hn6.lw.box.cell 3; have x4 := hn6.lw.box.cell 4; have x5 := hn6.lw.box.cell 5; have x6 := hn6.lw.box.cell 6; (simp at x0 x1 x2 x3 x4 x5 x6); have zi := hn6.icell hlt; have zc := hn6.ccell hlt; clear hb6 hn6))
          all_goals go_wp2_with fail
          all_goals go_meet
          all_goals (first | exact ⟨rfl, rfl, HN6.out⟩ | exact ⟨rfl, rfl, HN6.out.drew⟩)
        case rest =>
          obtain ⟨rfl, rfl, han⟩ := hcut
          have HAN := Lib.hid han
          clear han x0 x1 x2 x3 x4 x5 x6 zi zc
          have x0 := HAN.out.lw.box.cell 0
          have x1 := HAN.out.lw.box.cell 1
          have x2 := HAN.out.lw.box.cell 2
          have x3 := HAN.out.lw.box.cell 3
          have x4 := HAN.out.lw.box.cell 4
          have x5 := HAN.out.lw.box.cell 5
          have x6 := HAN.out.lw.box.cell 6
          simp at x0 x1 x2 x3 x4 x5 x6
          have zi := HAN.out.icell hlt
          have zc := HAN.out.ccell hlt
          go_upto_region 9 with (fail)
          go_cut [16, 17] (fun a b wx => a = .int .i64 (frmV t (at1 il j) (at1 cl j)) ∧ b = .int .i64 (frmE t (at1 il j) (at1 cl j)) ∧ AN w w.heap.size NN w2.heap.size t L bi il bc cl wx)
          case first =>
            go_region_held3 (fun W => W.cell? ⟨w2.heap.size, 0, none⟩ = some (.int .i64 t.m) ∧ W.cell? ⟨w2.heap.size, 1, none⟩ = some (.slice L.Ab t.bk.length L.nb) ∧ W.cell? ⟨w2.heap.size, 2, none⟩ = some (.int .i64 t.al) ∧ W.cell? ⟨w2.heap.size, 3, none⟩ = some (.int .i64 t.cr) ∧ W.cell? ⟨w2.heap.size, 4, none⟩ = some (.int .i64 t.un) ∧ W.cell? ⟨w2.heap.size, 5, none⟩ = some (.int .i64 t.mo) ∧ W.cell? ⟨w2.heap.size, 6, none⟩ = some (.slice L.Ar t.rw.length L.nr) ∧ W.cell? ⟨bi, j, none⟩ = some (.int .i64 (at1 il j)) ∧ W.cell? ⟨bc, j, none⟩ = some (.int .i64 (at1 cl j))) (first | exact ⟨x0, x1, x2, x3, x4, x5, x6, zi, zc⟩ | go_keep)
              (first | (go_at_call 34; refine (HC9.out _ ?_).mono ?_; (repeat (first | exact HAN.out | apply AN.drew)); rintro e w16 ⟨rfl, hb6⟩; (first | (have hn6 := AN.calc_ HAN.out hb6) | (have hn6 := AN.calc_ (AN.drew HAN.out) hb6)); have HN6 := Lib.hid hn6; clear x0 x1 x2 x3 x4 x5 x6 zi zc; have x0 := hn6.lw.box.cell 0; have x1 := hn6.lw.box.cell 1; have x2 := hn6.lw.box.cell 2; have x3 := hn6.lw.box.cell 3; have x4 := hn6.lw.box.cell 4; have x5 := hn6.lw.box.cell 5; have x6 := hn6.lw.box.cell 6; (simp at x0 x1 x2 x3 x4 x5 x6); have zi := hn6.icell hlt; have zc := hn6.ccell hlt; clear hb6 hn6))
            all_goals go_wp2_with fail
            all_goals go_meet
            all_goals (first | exact ⟨rfl, rfl, HN6.out⟩ | exact ⟨rfl, rfl, HN6.out.drew⟩)
          case rest =>
            obtain ⟨rfl, rfl, han⟩ := hcut
            have HAN := Lib.hid han
            clear han x0 x1 x2 x3 x4 x5 x6 zi zc
            have x0 := HAN.out.lw.box.cell 0
            have x1 := HAN.out.lw.box.cell 1
            have x2 := HAN.out.lw.box.cell 2
            have x3 := HAN.out.lw.box.cell 3
            have x4 := HAN.out.lw.box.cell 4
            have x5 := HAN.out.lw.box.cell 5
            have x6 := HAN.out.lw.box.cell 6
            simp at x0 x1 x2 x3 x4 x5 x6
            have zi := HAN.out.icell hlt
            have zc := HAN.out.ccell hlt
            go_upto_region 10 with (fail)
            go_cut [18, 19] (fun a b wx => a = .int .i64 (frmV t (at1 il j) (at1 cl j)) ∧ b = .int .i64 (frmE t (at1 il j) (at1 cl j)) ∧ AN w w.heap.size NN w2.heap.size t L bi il bc cl wx)
            case first =>
              go_region_held3 (fun W => W.cell? ⟨w2.heap.size, 0, none⟩ = some (.int .i64 t.m) ∧ W.cell? ⟨w2.heap.size, 1, none⟩ = some (.slice L.Ab t.bk.length L.nb) ∧ W.cell? ⟨w2.heap.size, 2, none⟩ = some (.int .i64 t.al) ∧ W.cell? ⟨w2.heap.size, 3, none⟩ = some (.int .i64 t.cr) ∧ W.cell? ⟨w2.heap.size, 4, none⟩ = some (.int .i64 t.un) ∧ W.cell? ⟨w2.heap.size, 5, none⟩ = some (.int .i64 t.mo) ∧ W.cell? ⟨w2.heap.size, 6, none⟩ = some (.slice L.Ar t.rw.length L.nr) ∧ W.cell? ⟨bi, j, none⟩ = some (.int .i64 (at1 il j)) ∧ W.cell? ⟨bc, j, none⟩ = some (.int .i64 (at1 cl j))) (first | exact ⟨x0, x1, x2, x3, x4, x5, x6, zi, zc⟩ | go_keep)
                (first | (go_at_call 35; refine (HC10.out _ ?_).mono ?_; (repeat (first | exact HAN.out | apply AN.drew)); rintro e w16 ⟨rfl, hb6⟩; (first | (have hn6 := AN.calc_ HAN.out hb6) | (have hn6 := AN.calc_ (AN.drew HAN.out) hb6)); have HN6 := Lib.hid hn6; clear x0 x1 x2 x3 x4 x5 x6 zi zc; have x0 := hn6.lw.box.cell 0; have x1 := hn6.lw.box.cell 1; have x2 := hn6.lw.box.cell 2; have x3 := hn6.lw.box.cell 3; have x4 := hn6.lw.box.cell 4; have x5 := hn6.lw.box.cell 5; have x6 := hn6.lw.box.cell 6; (simp at x0 x1 x2 x3 x4 x5 x6); have zi := hn6.icell hlt; have zc := hn6.ccell hlt; clear hb6 hn6))
              all_goals go_wp2_with fail
              all_goals go_meet
              all_goals (first | exact ⟨rfl, rfl, HN6.out⟩ | exact ⟨rfl, rfl, HN6.out.drew⟩)
            case rest =>
              obtain ⟨rfl, rfl, han⟩ := hcut
              have HAN := Lib.hid han
              clear han x0 x1 x2 x3 x4 x5 x6 zi zc
              have q1 : (annV t (at1 il j) != annV t (at1 il j)) = false := by simp
              have q2 : (annE t (at1 il j) != annE t (at1 il j)) = false := by simp
              have q3 : (frmV t (at1 il j) (at1 cl j) != frmV t (at1 il j) (at1 cl j)) = false := by simp
              have q4 : (frmE t (at1 il j) (at1 cl j) != frmE t (at1 il j) (at1 cl j)) = false := by simp
              clear HC7 HC8 HC9 HC10
              generalize annV t (at1 il j) = b1 at *
              generalize annE t (at1 il j) = b2 at *
              generalize frmV t (at1 il j) (at1 cl j) = b3 at *
              generalize frmE t (at1 il j) (at1 cl j) = b4 at *
              go_wp2
              go_roundw
              case rel => exact ⟨j + 1, by omega, by go_num, HAN.out⟩
              case measure => simp [intOf]; omega
    · go_wp2_with fail
      refine (awake_any _).mono ?_
      rintro e w19 ⟨rfl, hb9⟩
      have HAN := Lib.hid (HAN.out.calc_ hb9)
      clear hb9
      go_wp2
      go_ret
      exact ⟨rfl, HAN.out.lw.below⟩
end Go.Proofs.Ytcincmlpegnaiaa
