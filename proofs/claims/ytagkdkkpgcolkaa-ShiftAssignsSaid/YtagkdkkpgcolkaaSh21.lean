/-
  Chapter 10: far and sane. The memory is that of the given program; no conditions.
-/
import Derived.Test.YtagkdkkpgcolkaaSh14
import Derived.Test.YtagkdkkpgcolkaaSh24
import Derived.Laws.StructEq
namespace Go.Proofs.Ytagkdkkpgcolkaa
open Go.RowKit
set_option linter.unusedVariables false
set_option linter.unusedSimpArgs false
/-- far: the distance of an instant from the begin of a shift -/
theorem far_any {o d st mi t a : Int} {zA : Option Addr} {zc zn : Nat} {zl : List (Int × Int)} {w : World} (hn : Hid (zn = zl.length)) (hr : RdP w w.heap.size zA zl) (hl : Hid (zl.length ≤ 9223372036854775807)) (ha : Hid (a = spA o zl d st mi)) (ha0 : 0 ≤ a) (ha1 : a ≤ 200000000) (ht0 : 0 ≤ t) (ht1 : t ≤ 200000000) :
    Calls Try.prog 27 #[.agg #[.int .i64 o, .slice zA zn zc], .agg #[.int .i64 d, .int .i64 st, .int .i64 mi], .int .i64 t] w (RetI (absI (t - a)) w) := by
  have HR := Lib.hid hr
  clear hr
  obtain ⟨b, Hb⟩ : ∃ b, Hid (b = spB o zl d st mi) := ⟨_, Lib.hid rfl⟩
  obtain ⟨se, Hse⟩ : ∃ b, Hid (b = spE o zl d st mi) := ⟨_, Lib.hid rfl⟩
  have HB0 : Hid (∀ ob ob2, Below w.heap.size w ((w.alloc ob).alloc ob2)) := Lib.hid (fun ob ob2 => ((Below.refl _ _).alloc (Nat.le_refl _) _).alloc (by simp) _)
  have HA : Hid (absI (t - a) = max (t - a) (a - t)) := Lib.hid (by unfold absI; omega)
  go_enter Try.func27, Try.ntmps27
  go_wp2_with fail
  refine (rspan_at hn (rdP_up HR (HB0.out _ _)) hl ha Hb Hse).mono ?_
  rintro e w2 ⟨rfl, hb⟩
  have HB2 : Hid (Below w.heap.size w w2) := Lib.hid ((HB0.out _ _).trans (hb.mono (by simp; omega)))
  clear hb HB0
  go_wp2
  all_goals
    go_ret
    refine ⟨?_, ?_⟩
    · have h := HA.out
      refine ret_int ?_
      omega
    · exact HB2.out.alloc HB2.out.size _
theorem run_eqIv (a0 a1 b0 b1 : Int) (w : World) : (Op.equalIn 10000 38 (.agg #[.int .i64 a0, .int .i64 a1]) (.agg #[.int .i64 b0, .int .i64 b1])).run Try.prog w = .ok (a0 == b0 && a1 == b1) w := by
  rw [run_equalIn_struct w 9999 38 _ _ (by kernel_rfl) (by kernel_rfl)]
  unfold Program.fieldsOf
  rw [Try.underlying38]
  cases h0 : (a0 == b0) <;> cases h1 : (a1 == b1) <;> simp [Op.eqFields, go_sem, Try.underlying3, h0, h1]
/-! ### The examples -/
theorem ex_z : zerr 0 [] = 0 := by decide
theorem ex_first : firstV 0 [] 5640 = 5640 := by decide
theorem ex_sp : spE 0 [] 3 1320 480 = 0 ∧ spA 0 [] 3 1320 480 = 5640 ∧ spB 0 [] 3 1320 480 = 6120 := by
  have e : spE 0 [] 3 1320 480 = 0 := by unfold spE; rw [if_pos ex_z, if_pos (by rw [show (3 * 1440 + 1320 : Int) = 5640 from rfl, ex_first]; decide)]
  unfold spA spB
  rw [if_pos e, if_pos e, show (3 * 1440 + 1320 : Int) = 5640 from rfl, ex_first]
  exact ⟨e, rfl, rfl⟩
theorem ex_vE : vE 0 [] [(3, 1320, 480)] = 0 := by
  unfold vE
  rw [if_neg (by decide), if_pos ex_z]
  show vTo 0 [] [(3, 1320, 480)] 1 = 0
  have e : sE 0 [] [(3, 1320, 480)] 0 = 0 := ex_sp.1
  rw [vTo, if_pos (show vTo 0 [] [(3, 1320, 480)] 0 = 0 from rfl), if_pos e, if_neg (by omega)]
theorem ex_spL : spL 0 [] [(3, 1320, 480)] 1 = [(5640, 6120)] := by
  have e1 : sA 0 [] [(3, 1320, 480)] 0 = 5640 := ex_sp.2.1
  have e2 : sB 0 [] [(3, 1320, 480)] 0 = 6120 := ex_sp.2.2
  rw [spL, spL, e1, e2]
  rfl
theorem ex_prV : prV [(5600, 6000, [])] = 0 := prV_ok (by decide) (fun i hi => by
  obtain rfl : i = 0 := by simpa using hi
  refine ⟨by decide, by decide, by decide, by decide, fun j hj => ?_⟩
  exact absurd hj (Nat.not_lt_zero j))
theorem ex_day : dayR 0 [] 5600 = 3 := by
  unfold dayR
  rw [if_pos (off_ok ex_z ⟨by decide, by decide⟩).1]
  decide
theorem ex_as {early : Int} (he : 0 ≤ early ∧ early ≤ 1440) : asE 0 [] [(3, 1320, 480)] [(5600, 6000, [])] early 0 = 0 := by
  unfold asE
  rw [if_pos ex_vE, if_pos ⟨he.1, he.2, by decide, by decide⟩, ex_prV]
theorem ex_l60 : asL 0 [] [(3, 1320, 480)] [(5600, 6000, [])] 60 0 = [(0, 3, [(5600, 6000, [])])] := by
  unfold asL
  show asTo 0 [] [(3, 1320, 480)] (spL 0 [] [(3, 1320, 480)] 1) 60 0 [(5600, 6000, [])] 1 = _
  rw [ex_spL, asTo, asTo]
  have e1 : kS [(5640, 6120)] (pF [(5600, 6000, [])] 0) 60 0 = 0 := by unfold kS; decide
  have e2 : kD 0 [] [(3, 1320, 480)] [(5640, 6120)] (pF [(5600, 6000, [])] 0) 60 0 = 3 := by
    unfold kD
    have : blV [(5640, 6120)] (pF [(5600, 6000, [])] 0) 60 0 = 0 := e1
    rw [this]
    decide
  rw [e1, e2]
  rfl
theorem ex_l30 : asL 0 [] [(3, 1320, 480)] [(5600, 6000, [])] 30 0 = [(-1, 3, [(5600, 6000, [])])] := by
  unfold asL
  show asTo 0 [] [(3, 1320, 480)] (spL 0 [] [(3, 1320, 480)] 1) 30 0 [(5600, 6000, [])] 1 = _
  rw [ex_spL, asTo, asTo]
  have e1 : kS [(5640, 6120)] (pF [(5600, 6000, [])] 0) 30 0 = -1 := by unfold kS; decide
  have e2 : kD 0 [] [(3, 1320, 480)] [(5640, 6120)] (pF [(5600, 6000, [])] 0) 30 0 = 3 := by
    unfold kD
    have : blV [(5640, 6120)] (pF [(5600, 6000, [])] 0) 30 0 = -1 := e1
    rw [this, if_neg (by decide)]
    exact ex_day
  rw [e1, e2]
  rfl
theorem ex_pl : plV [(3, 1320, 480)] 3 = 480 := by decide
theorem rdT_one (w : World) (a b c : Int) (t : TypeId) : RdT (w.alloc (.cells #[.int .i64 a, .int .i64 b, .int .i64 c] t)) (w.alloc (.cells #[.int .i64 a, .int .i64 b, .int .i64 c] t)).heap.size (some ⟨w.heap.size, 0, none⟩) [(a, b, c)] := by
  intro _
  refine ⟨w.heap.size, 0, rfl, by simp, fun i j hi hj => ?_⟩
  have hi0 : i = 0 := by simpa using hi
  subst hi0
  have := (Blk.new w t #[.int .i64 a, .int .i64 b, .int .i64 c]).cell j
  simp only [Nat.zero_mul, Nat.add_zero, Nat.zero_add]
  rw [this]
  rcases (show j = 0 ∨ j = 1 ∨ j = 2 by omega) with rfl | rfl | rfl <;> simp [triCell, tA, tB, tC]
theorem rdPr_one {W : World} {g : Nat} {f t : Int} {ty : TypeId} (h : Blk W g ty #[.int .i64 f, .int .i64 t, .slice none 0 0]) : RdPr W (some ⟨g, 0, none⟩) [(f, t, [])] := by
  intro _
  refine ⟨g, 0, rfl, h.lt, fun i hi => ?_⟩
  obtain rfl : i = 0 := by simpa using hi
  exact ⟨none, 0, 0, by simpa [pF] using h.cell 0, by simpa [pT] using h.cell 1, by simpa using h.cell 2, Rd.none_, rfl, by omega⟩
theorem rdDu_cell {W : World} {A : Option Addr} {ds : List Du} (h : RdDu W A ds) {i : Nat} (hi : i < ds.length) : ∃ g, A = some ⟨g, 0, none⟩ ∧ g < W.heap.size ∧ W.cell? ⟨g, i * 3, none⟩ = some (.int .i64 (uS ds i)) ∧ W.cell? ⟨g, i * 3 + 1, none⟩ = some (.int .i64 (uD ds i)) := by
  obtain ⟨g, e, hg, hc⟩ := h (by omega)
  exact ⟨g, e, hg, (hc i hi).1, (hc i hi).2.1⟩
set_option maxRecDepth 100000 in
set_option maxHeartbeats 3200000 in
theorem sane_any (w : World) : Calls Try.prog 20 #[] w (RetB true w) := by
  have hei := run_eqIv
  have HZ : ∀ W : World, RdP W W.heap.size none [] := fun W => Rd.none_
  have hzl : Hid (([] : List (Int × Int)).length ≤ 9223372036854775807) := Lib.hid (by decide)
  have hz0 : Hid (0 = ([] : List (Int × Int)).length) := Lib.hid rfl
  have ha : Hid (5640 = spA 0 [] 3 1320 480) := Lib.hid ex_sp.2.1.symm
  have hb : Hid (6120 = spB 0 [] 3 1320 480) := Lib.hid ex_sp.2.2.symm
  have he : Hid (0 = spE 0 [] 3 1320 480) := Lib.hid ex_sp.1.symm
  have h1 : Hid (1 = ([(3, 1320, 480)] : List T3).length) := Lib.hid rfl
  have h2 : Hid (1 = ([(5600, 6000, [])] : List Pr).length) := Lib.hid rfl
  have HB0 : Hid (∀ ob, Below w.heap.size w (w.alloc ob)) := Lib.hid (fun ob => (Below.refl _ _).alloc (Nat.le_refl _) _)
  go_enter Try.func20, Try.ntmps20
  go_wp2_with fail
  refine (span_at hz0 (HZ _) hzl ha hb he).mono ?_
  rintro e w2 ⟨rfl, hb2⟩
  have HS2 : Hid (Blk w2 w.heap.size 42 #[.int .i64 3, .int .i64 1320, .int .i64 480]) := Lib.hid ((Blk.new w _ _).below hb2 (by simp))
  have HB2 : Hid (Below w.heap.size w w2) := Lib.hid ((HB0.out _).trans (hb2.mono (by simp)))
  clear hb2
  have s0 : w2.cell? ⟨w.heap.size, 0, none⟩ = some (.int .i64 3) := by have := HS2.out.cell 0; simpa using this
  have s1 : w2.cell? ⟨w.heap.size, 1, none⟩ = some (.int .i64 1320) := by have := HS2.out.cell 1; simpa using this
  have s2 : w2.cell? ⟨w.heap.size, 2, none⟩ = some (.int .i64 480) := by have := HS2.out.cell 2; simpa using this
  have q2 : w.heap.size < w2.heap.size := HS2.out.lt
  go_upto_region 4 with (fail)
  obtain ⟨w3, Hw3⟩ : ∃ W, Hid (W = (w2.alloc (.cells #[.int .i64 5640, .int .i64 6120] 38)).alloc (.cells #[.int .i64 5600, .int .i64 6000, .slice none 0 0] 58)) := ⟨_, Lib.hid rfl⟩
  rw [← Hw3.out]
  obtain ⟨gi, Hgi⟩ : ∃ g, Hid (g = w2.heap.size) := ⟨_, Lib.hid rfl⟩
  rw [← Hgi.out]
  obtain ⟨gp, Hgp⟩ : ∃ g, Hid (g = gi + 1) := ⟨_, Lib.hid rfl⟩
  rw [← Hgp.out]
  have HS3 : Hid (Blk w3 w.heap.size 42 #[.int .i64 3, .int .i64 1320, .int .i64 480]) := Lib.hid (by rw [Hw3.out]; exact (HS2.out.alloc _).alloc _)
  have HI3 : Hid (Blk w3 gi 38 #[.int .i64 5640, .int .i64 6120]) := Lib.hid (by rw [Hw3.out, Hgi.out]; exact (Blk.new _ _ _).alloc _)
  have HP3 : Hid (Blk w3 gp 58 #[.int .i64 5600, .int .i64 6000, .slice none 0 0]) := Lib.hid (by rw [Hw3.out, Hgp.out, Hgi.out]; exact Blk.new' (by simp))
  have HB3 : Hid (Below w.heap.size w w3) := Lib.hid (by rw [Hw3.out]; have := HB2.out.size; exact (HB2.out.alloc (by omega) _).alloc (by simp; omega) _)
  clear s0 s1 s2 q2 Hw3 Hgi Hgp HS2 HB2
  have s0 : w3.cell? ⟨w.heap.size, 0, none⟩ = some (.int .i64 3) := by have := HS3.out.cell 0; simpa using this
  have s1 : w3.cell? ⟨w.heap.size, 1, none⟩ = some (.int .i64 1320) := by have := HS3.out.cell 1; simpa using this
  have s2 : w3.cell? ⟨w.heap.size, 2, none⟩ = some (.int .i64 480) := by have := HS3.out.cell 2; simpa using this
  go_wp2_with fail
  refine (assign_any 0 none 0 0 [] _ 1 1 [(3, 1320, 480)] _ 1 1 [(5600, 6000, [])] 60 0 _ hz0 h1 h2 (HZ _) (by decide) (rdT_one _ _ _ _ _) (by decide) (rdPr_one (HP3.out.alloc _)) (by decide)).mono ?_
  rintro e w4 ⟨hb4, h4 | h4⟩
  · exact absurd (ex_as (by decide)) h4.1
  obtain ⟨_, A4, c4, n4, hn4, rfl, hd4, hc4⟩ := h4
  rw [ex_l60] at hn4 hd4
  obtain rfl : n4 = 1 := hn4
  obtain ⟨g4, rfl, hg4, d0, d1⟩ := rdDu_cell hd4 (i := 0) (by decide)
  have HB34 : Hid (Below w3.heap.size w3 w4) := Lib.hid (((Below.refl _ _).alloc (Nat.le_refl _) _).trans (hb4.mono (by simp)))
  have HB4 : Hid (Below w.heap.size w w4) := Lib.hid (HB3.out.trans (HB34.out.mono HB3.out.size))
  have HS4 := Lib.hid (HS3.out.below HB34.out HS3.out.lt)
  have HI4 := Lib.hid (HI3.out.below HB34.out HI3.out.lt)
  have HP4 := Lib.hid (HP3.out.below HB34.out HP3.out.lt)
  have HD0 : Hid (w4.cell? ⟨g4, 0, none⟩ = some (.int .i64 0)) := Lib.hid (by simpa [uS] using d0)
  have HD1 : Hid (w4.cell? ⟨g4, 1, none⟩ = some (.int .i64 3)) := Lib.hid (by simpa [uD] using d1)
  have HG4 := Lib.hid hg4
  clear s0 s1 s2 hb4 hd4 hc4 hg4 d0 d1 HS3 HI3 HP3 HB34
  have s0 : w4.cell? ⟨w.heap.size, 0, none⟩ = some (.int .i64 3) := by have := HS4.out.cell 0; simpa using this
  have s1 : w4.cell? ⟨w.heap.size, 1, none⟩ = some (.int .i64 1320) := by have := HS4.out.cell 1; simpa using this
  have s2 : w4.cell? ⟨w.heap.size, 2, none⟩ = some (.int .i64 480) := by have := HS4.out.cell 2; simpa using this
  go_wp2_with fail
  refine (assign_any 0 none 0 0 [] _ 1 1 [(3, 1320, 480)] _ 1 1 [(5600, 6000, [])] 30 0 _ hz0 h1 h2 (HZ _) (by decide) (rdT_one _ _ _ _ _) (by decide) (rdPr_one (HP4.out.alloc _)) (by decide)).mono ?_
  rintro e w5 ⟨hb5, h5 | h5⟩
  · exact absurd (ex_as (by decide)) h5.1
  obtain ⟨_, A5, c5, n5, hn5, rfl, hd5, hc5⟩ := h5
  rw [ex_l30] at hn5 hd5
  obtain rfl : n5 = 1 := hn5
  obtain ⟨g5, rfl, hg5, d0, d1⟩ := rdDu_cell hd5 (i := 0) (by decide)
  have HB45 : Hid (Below w4.heap.size w4 w5) := Lib.hid (((Below.refl _ _).alloc (Nat.le_refl _) _).trans (hb5.mono (by simp)))
  have HB5 : Hid (Below w.heap.size w w5) := Lib.hid (HB4.out.trans (HB45.out.mono HB4.out.size))
  have HS5 := Lib.hid (HS4.out.below HB45.out HS4.out.lt)
  have HI5 := Lib.hid (HI4.out.below HB45.out HI4.out.lt)
  have z0 : w5.cell? ⟨g5, 0, none⟩ = some (.int .i64 (-1)) := by simpa [uS] using d0
  have z1 : w5.cell? ⟨g5, 1, none⟩ = some (.int .i64 3) := by simpa [uD] using d1
  have y0 : w5.cell? ⟨g4, 0, none⟩ = some (.int .i64 0) := (HB45.out.cell (p := ⟨g4, 0, none⟩) HG4.out).trans HD0.out
  have y1 : w5.cell? ⟨g4, 1, none⟩ = some (.int .i64 3) := (HB45.out.cell (p := ⟨g4, 1, none⟩) HG4.out).trans HD1.out
  clear s0 s1 s2 hb5 hd5 hc5 hg5 d0 d1 HS4 HI4 HP4 HB45 HD0 HD1 HG4
  have s0 : w5.cell? ⟨w.heap.size, 0, none⟩ = some (.int .i64 3) := by have := HS5.out.cell 0; simpa using this
  have s1 : w5.cell? ⟨w.heap.size, 1, none⟩ = some (.int .i64 1320) := by have := HS5.out.cell 1; simpa using this
  have s2 : w5.cell? ⟨w.heap.size, 2, none⟩ = some (.int .i64 480) := by have := HS5.out.cell 2; simpa using this
  have i0 : w5.cell? ⟨gi, 0, none⟩ = some (.int .i64 5640) := by have := HI5.out.cell 0; simpa using this
  have i1 : w5.cell? ⟨gi, 1, none⟩ = some (.int .i64 6120) := by have := HI5.out.cell 1; simpa using this
  go_wp2_with fail
  refine (planned_any _ 1 [(3, 1320, 480)] 3 _ (rdT_one _ _ _ _ _) (by decide) (by decide) (by decide)).mono ?_
  rintro e w6 ⟨rfl, hb6⟩
  rw [ex_pl]
  have HB56 : Hid (Below w5.heap.size w5 w6) := Lib.hid (((Below.refl _ _).alloc (Nat.le_refl _) _).trans (hb6.mono (by simp)))
  have HB6 : Hid (Below w.heap.size w w6) := Lib.hid (HB5.out.trans (HB56.out.mono HB5.out.size))
  have HS6 := Lib.hid (HS5.out.below HB56.out HS5.out.lt)
  clear hb6 s0 s1 s2 i0 i1 y0 y1 z0 z1
  have s0 : w6.cell? ⟨w.heap.size, 0, none⟩ = some (.int .i64 3) := by have := HS6.out.cell 0; simpa using this
  have s1 : w6.cell? ⟨w.heap.size, 1, none⟩ = some (.int .i64 1320) := by have := HS6.out.cell 1; simpa using this
  have s2 : w6.cell? ⟨w.heap.size, 2, none⟩ = some (.int .i64 480) := by have := HS6.out.cell 2; simpa using this
  go_wp2_with fail
  refine (valid_any 0 none 0 0 [] _ 1 1 [(3, 1320, 480)] _ hz0 h1 (HZ _) (by decide) (rdT_one _ _ _ _ _) (by decide)).mono ?_
  rintro e w7 ⟨rfl, hb7⟩
  rw [ex_vE]
  have HB7 : Hid (Below w.heap.size w w7) := Lib.hid (HB6.out.trans ((((Below.refl _ _).alloc (Nat.le_refl _) _).trans (hb7.mono (by simp))).mono HB6.out.size))
  clear hb7 s0 s1 s2
  go_wp2
  go_ret
  exact ⟨rfl, HB7.out⟩
end Go.Proofs.Ytagkdkkpgcolkaa
