/-
  The walk of the law ClockReads.
-/
import Derived.Test.YtmahhpemljopiaaLaws4
import Derived.Test.YtmahhpemljopiaaReads4
import Derived.Test.YtmahhpemljopiaaSpoil
namespace Go.Proofs.Ytmahhpemljopiaa
open Go.RowKit
set_option linter.unusedVariables false
set_option linter.unusedSimpArgs false

section
variable {w W W' : World} {g z c : Nat} {N N' o : Int} {A : Option Addr} {l : List (Int × Int)} {e : Ending} {P : Int → Prop}
def ZInt (P : Int → Prop) (w : World) (g : Nat) (M : Int) (z : Nat) (o : Int) (A : Option Addr) (c : Nat) (l : List (Int × Int)) (e : Ending) (w' : World) : Prop :=
  ∃ v, e = .returned (.int .i64 v) ∧ P v ∧ ZD w g M z o A c l w'
theorem DeckInt.zd (h : DeckInt P g N' W e W') (hz : ZD w g N z o A c l W) : ZInt P w g N' z o A c l e W' := by
  obtain ⟨v, he, hP, ho, hD⟩ := h
  exact ⟨v, he, hP, hz.draw ho hD⟩
theorem ZD.drew (h : ZD w g N z o A c l W) : ZD w g N z o A c l W.drew := h.calc_ (below_drewN (Below.refl _ _) 1)
theorem ZD.alloc (h : ZD w g N z o A c l W) (ob : Obj) : ZD w g N z o A c l (W.alloc ob) := h.calc_ ((Below.refl _ _).alloc (Nat.le_refl _) ob)
theorem ZD.glt (h : ZD w g N z o A c l W) : g < W.heap.size := h.dr.deck.lt
/-- a spoiled zone, beside the zone -/
def ZSp (w : World) (g : Nat) (M : Int) (z : Nat) (o : Int) (A : Option Addr) (c : Nat) (l : List (Int × Int)) (e : Ending) (w' : World) : Prop :=
  ∃ o2 A2 c2 l2, e = .returned (.agg #[.int .i64 o2, .slice A2 l2.length c2]) ∧ l2.length ≤ 10 ∧ RdP w' w'.heap.size A2 l2 ∧ ZD w g M z o A c l w'
end
theorem RdP.drewN {w : World} {A : Option Addr} {l : List (Int × Int)} (h : RdP w w.heap.size A l) : RdP w.drew w.drew.heap.size A l := h
theorem RdI.drewN {w : World} {A : Option Addr} {l : List Int} (h : RdI w w.heap.size A l) : RdI w.drew w.drew.heap.size A l := h

set_option maxHeartbeats 3200000 in
set_option maxRecDepth 100000 in
theorem clockReads_walk (A0 : Option Addr) (c0 : Nat) (l0 : List Int) (oz : Int) (Az : Option Addr) (cz : Nat) (lz : List (Int × Int)) (at0 loc0 day0 : Int) (w : World) (hr0 : RdI w w.heap.size A0 l0) (hl0 : l0.length ≤ 9223372036854775807) (hrz : RdP w w.heap.size Az lz) (hlz : lz.length ≤ 9223372036854775807) :
    Calls Try.prog 8 #[.slice A0 l0.length c0, .agg #[.int .i64 oz, .slice Az lz.length cz], .int .i64 at0, .int .i64 loc0, .int .i64 day0] w (RetB true w) := by
  obtain ⟨wb, hwb⟩ : ∃ wb, wb = w.alloc (.cells #[.int .i64 oz, .slice Az lz.length cz] 27) := ⟨_, rfl⟩
  have HBW : Hid (Below w.heap.size w wb) := Lib.hid (by rw [hwb]; exact (Below.refl _ _).alloc (Nat.le_refl _) _)
  have HSW : Hid (wb.heap.size = w.heap.size + 1) := Lib.hid (by rw [hwb]; simp)
  have HBX : Hid (Blk wb w.heap.size 27 #[.int .i64 oz, .slice Az lz.length cz]) := Lib.hid (by rw [hwb]; exact Blk.new _ _ _)
  have HNEW : Hid (Calls Try.prog 9 #[.slice A0 l0.length c0] wb fun e w' => e = .returned (.pointer (some ⟨w.heap.size + 1, 0, none⟩)) ∧ Below wb.heap.size wb w' ∧ Deck w' (w.heap.size + 1) 0) := Lib.hid (by
    refine (new_any A0 c0 l0 wb (Rd.more (RdI.below hr0 HBW.out) HBW.out.size) hl0).mono ?_
    rintro e w' ⟨rfl, h1, h2, h3⟩
    rw [HSW.out] at h2
    exact ⟨by rw [HSW.out], h1, h2⟩)
  have HRZ : Hid (RdP wb w.heap.size Az lz) := Lib.hid (hrz.below HBW.out)
  have hgl : Hid (w.heap.size < wb.heap.size) := Lib.hid (by rw [HSW.out]; omega)
  clear hr0 hrz
  go_enter Try.func8, Try.ntmps8
  go_wp2_with fail
  rw [← hwb]
  clear hwb
  refine HNEW.out.mono ?_
  rintro e w1 ⟨rfl, hb1, hd1⟩
  generalize hg : w.heap.size + 1 = g at *
  have HG : Hid (g = wb.heap.size) := Lib.hid HSW.out.symm
  have HB1 := Lib.hid hb1
  have HD1 := Lib.hid hd1
  clear hb1 hd1 HNEW hg HSW
  go_wp2
  go_loopw [12, 13, 14] (fun i _ _ wr => ∃ k : Nat, k ≤ 4 ∧ i = .int .i64 k ∧ Below wb.heap.size wb wr ∧ Deck wr g (40 * (k : Int))) (fun i _ _ _ => 4 - (intOf i).toNat)
  case atStart => exact ⟨0, by omega, rfl, HB1.out, HD1.out.more (by omega)⟩
  case round =>
    obtain ⟨k, hk, rfl, hbl, hdk⟩ := hrel
    have HBL := Lib.hid hbl
    have HDK := Lib.hid hdk
    clear hbl hdk HB1 HD1
    by_cases hlt : k < 4
    · go_wp2_with fail
      refine (zone_any g (40 * (k : Int)) _ HDK.out (by omega)).mono ?_
      rintro e w2 ⟨o, A, c, l, a, rfl, hgen, hr, hne, ho2, hD2⟩
      have hl3 := hgen.1
      have HDr : Hid (Dr wb g (40 * (k : Int) + 20) A l w2) := Lib.hid ⟨HBL.out.trans (ho2.below HBL.out.size (by rw [HG.out]; exact Nat.le_refl _)), hD2, hr, fun b off e => by have := hne b off e; have := HDK.out.lt; omega, HG.out⟩
      have HZ := Lib.hid (HDr.out.box (o := o) (c := c))
      clear hgen hr hne ho2 hD2
      go_wp2_with fail
      refine (near_any g _ _ HZ.out.dr.deck (by omega)).mono ?_
      rintro e w3 ⟨nr, rfl, hnr, ho, hD⟩
      have HZ := Lib.hid (HZ.out.draw ho hD)
      clear ho hD
      generalize w2.heap.size = z at *
      go_wp2_with fail
      refine (pick_new g _ [nr, 0, 120968639, 29453759, 29455200] w3 3 5 HZ.out.dr.deck (by omega) (by simp) (by simp)).mono ?_
      rintro e w4 ⟨n, rfl, hn, ho, hD⟩
      have HZ := Lib.hid (HZ.out.draw ho hD)
      have hnb : 0 ≤ n ∧ n ≤ 120968639 := by simp at hn; omega
      clear ho hD hn
      have HNX : Hid (∀ (n : Int) W M, 0 < n → n ≤ 4000 → M ≤ 40 * (k : Int) + 30 → ZD wb g M z o A c l W → Calls Try.prog 16 #[.pointer (some ⟨g, 0, none⟩), .int .i64 n] W (ZInt (fun v => 0 ≤ v ∧ v < n) wb g (M + 1) z o A c l)) :=
        Lib.hid (fun n W M h0 h1 hM h => (next_any g M n W h.dr.deck (by omega) h0 (by omega)).mono (fun e w' h' => DeckInt.zd h' h))
      have HPK : Hid (∀ W M gs, M ≤ 40 * (k : Int) + 30 → ZD wb g M z o A c l W → (∃ L : List Int, RdI W W.heap.size (some ⟨gs, 0, none⟩) L ∧ L.length = 5) → gs ≠ g → Calls Try.prog 15 #[.pointer (some ⟨g, 0, none⟩), .slice (some ⟨gs, 0, none⟩) 5 5] W (ZInt (fun _ => True) wb g (M + 1) z o A c l)) :=
        Lib.hid (fun W M gs hM h ⟨L, hr, hL⟩ hne => by
          have := pick_any g M (some ⟨gs, 0, none⟩) 5 _ L W h.dr.deck (by omega) hr (Nat.le_refl _) (fun b off e => by injection e with e; injection e with e; omega) (by omega) (by omega)
          rw [hL] at this
          exact this.mono (fun e w' ⟨v, h1, _, h3, h4⟩ => ⟨v, h1, trivial, h.draw h3 h4⟩))
      have HRD : Hid (∀ W M t loc day, ZD wb g M z o A c l W → Calls Try.prog 22 #[.agg #[.int .i64 o, .slice A l.length c], .int .i64 t, .int .i64 loc, .int .i64 day] W (fun e w' => e = .returned (.bool true) ∧ ZD wb g M z o A c l w')) :=
        Lib.hid (fun W M t loc day h => (reads_any A c _ o l t loc day W h.dr.rd (Nat.le_refl _) (by omega)).mono (fun e w' h' => ⟨h'.1, h.calc_ h'.2⟩))
      have HSP : Hid (∀ W M, M ≤ 40 * (k : Int) + 30 → ZD wb g M z o A c l W → Calls Try.prog 23 #[.pointer (some ⟨g, 0, none⟩), .agg #[.int .i64 o, .slice A l.length c]] W (ZSp wb g (M + 2) z o A c l)) :=
        Lib.hid (fun W M hM h => (spoilZone_any g M o A c l W h.dr.deck (by omega) h.dr.rd hl3).mono (by
          rintro e w' ⟨o2, A2, c2, l2, rfl, h1, h2, h3, h4, h5⟩
          exact ⟨o2, A2, c2, l2, rfl, h1, h2, h.draw h4 h5⟩))
      have HRS : Hid (∀ W M o2 A2 c2 (l2 : List (Int × Int)) t loc day, l2.length ≤ 10 → RdP W W.heap.size A2 l2 → ZD wb g M z o A c l W → Calls Try.prog 22 #[.agg #[.int .i64 o2, .slice A2 l2.length c2], .int .i64 t, .int .i64 loc, .int .i64 day] W (fun e w' => e = .returned (.bool true) ∧ ZD wb g M z o A c l w')) :=
        Lib.hid (fun W M o2 A2 c2 l2 t loc day hl hr h => (reads_any A2 c2 _ o2 l2 t loc day W hr (Nat.le_refl _) (by omega)).mono (fun e w' h' => ⟨h'.1, h.calc_ h'.2⟩))
      have z0 := HZ.out.c0
      have z1 := HZ.out.c1
      clear HDr
      go_upto_region 7 with (fail)
      go_cut [52] (fun s52 wx => s52 = .bool false ∧ Below wb.heap.size wb wx ∧ Deck wx g (40 * ((k : Int) + 1)))
      case first =>
        go_region_held3 (fun W => W.cell? ⟨z, 0, none⟩ = some (.int .i64 o) ∧ W.cell? ⟨z, 1, none⟩ = some (.slice A l.length c)) (first | go_keep | assumption)
          (first | (go_at_call 16; have HZa := HZ1; refine (HNX.out 5 _ _ (by omega) (by omega) (by omega) (?_ : ZD wb g (40 * (k : Int) + 20 + 3 + 1 + 1) z o A c l _)).mono ?_; (repeat (first | exact HZa.out | apply ZD.drew)); rintro e w6 ⟨v6, rfl, hv6, hz6⟩; have HZ2 := Lib.hid hz6; have y0 := hz6.c0; have y1 := hz6.c1; have hg6 := hz6.glt; clear hz6) | (go_at_call 16; refine (HNX.out 2000 _ _ (by omega) (by omega) (by omega) (?_ : ZD wb g (40 * (k : Int) + 20 + 3 + 1) z o A c l _)).mono ?_; (repeat (first | exact HZ.out | apply ZD.drew)); rintro e w5 ⟨v5, rfl, hv5, hz5⟩; have HZ1 := Lib.hid hz5; have y0 := hz5.c0; have y1 := hz5.c1; clear hz5) | (go_at_call 15; refine (HPK.out _ _ _ (by omega) (?_ : ZD wb g (40 * (k : Int) + 20 + 3 + 1 + 1 + 1) z o A c l _) ?_ ?_).mono ?_; (repeat (first | exact HZ2.out | apply ZD.drew | apply ZD.alloc)); (first | exact ⟨[_, _, _, _, _], (rdI_at _ [_, _, _, _, _] _ _ (by simp)).up.drewN, rfl⟩ | exact ⟨[_, _, _, _, _], (rdI_at _ [_, _, _, _, _] _ _ (by simp)).up, rfl⟩); omega; rintro e w7 ⟨v7, rfl, hv7, hz7⟩; have HZ3 := Lib.hid hz7; have y0 := hz7.c0; have y1 := hz7.c1; clear hz7 hv7) | (go_at_call 22; have HZa := HZ5; refine (HRS.out _ _ _ _ _ _ _ _ _ hl8 ?_ (?_ : ZD wb g (40 * (k : Int) + 20 + 3 + 1 + 1 + 1 + 1 + 2) z o A c l _)).mono ?_; (first | exact HR5.out | exact HR5.out.drewN); (repeat (first | exact HZ5.out | apply ZD.drew)); rintro e w10 ⟨rfl, hz10⟩; have HZ6 := Lib.hid hz10; have y0 := hz10.c0; have y1 := hz10.c1; clear hz10) | (go_at_call 22; refine (HRD.out _ _ _ _ _ (?_ : ZD wb g (40 * (k : Int) + 20 + 3 + 1 + 1 + 1 + 1) z o A c l _)).mono ?_; (repeat (first | exact HZ3.out | apply ZD.drew)); rintro e w8 ⟨rfl, hz8⟩; have HZ4 := Lib.hid hz8; have y0 := hz8.c0; have y1 := hz8.c1; clear hz8) | (go_at_call 23; refine (HSP.out _ _ (by omega) (?_ : ZD wb g (40 * (k : Int) + 20 + 3 + 1 + 1 + 1 + 1) z o A c l _)).mono ?_; (repeat (first | exact HZ4.out | apply ZD.drew)); rintro e w9 ⟨o2, A2, c2, l2, rfl, hl8, hr5, hz9⟩; have HZ5 := Lib.hid hz9; have HR5 := Lib.hid hr5; have y0 := hz9.c0; have y1 := hz9.c1; clear hz9 hr5))
        all_goals go_wp2_with fail
        all_goals go_meet
        all_goals exact ⟨rfl, HZ6.out.dr.below, HZ6.out.dr.deck.more (by omega)⟩
      case rest =>
        obtain ⟨rfl, hbl, hdk⟩ := hcut
        have HBL := Lib.hid hbl
        have HDK := Lib.hid hdk
        clear hbl hdk z0 z1 HNX HPK HRD HSP HRS
        go_wp2
        go_roundw
        case rel => exact ⟨k + 1, by omega, by go_num, HBL.out, HDK.out.more (by omega)⟩
        case measure => simp [intOf]; omega
    · have hbx := HBX.out.below HBL.out hgl.out
      have x0 := hbx.cell 0
      have x1 := hbx.cell 1
      simp at x0 x1
      have HW : Hid (Below w.heap.size w wr) := Lib.hid (HBW.out.trans (HBL.out.mono (Nat.le_of_lt hgl.out)))
      have HRZ := Lib.hid (HRZ.out.below (HBL.out.mono (Nat.le_of_lt hgl.out)))
      clear hbx
      by_cases h70 : 70 < lz.length
      · have d1 : decide (70 < (lz.length : Int)) = true := by simp; omega
        go_wp2
        go_ret
        exact ⟨rfl, HW.out⟩
      · have d1 : decide (70 < (lz.length : Int)) = false := by simp; omega
        go_wp2_with fail
        refine (reads_any Az cz _ oz lz at0 loc0 day0 _ HRZ.out HW.out.size hlz).mono ?_
        rintro e x1 ⟨rfl, hb⟩
        have HW := Lib.hid (HW.out.trans (hb.mono HW.out.size))
        clear hb
        go_wp2_with fail
        refine (sane_any _).mono ?_
        rintro e x2 ⟨rfl, hb⟩
        have HW := Lib.hid (HW.out.trans (hb.mono HW.out.size))
        clear hb
        go_wp2
        go_ret
        exact ⟨rfl, HW.out⟩
end Go.Proofs.Ytmahhpemljopiaa
