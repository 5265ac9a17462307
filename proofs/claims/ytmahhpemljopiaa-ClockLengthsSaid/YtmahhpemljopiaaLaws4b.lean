/-
  The walks of the laws ClockDays, ClockLengths.
-/
import Derived.Test.YtmahhpemljopiaaLaws4
namespace Go.Proofs.Ytmahhpemljopiaa
open Go.RowKit
set_option linter.unusedVariables false
set_option linter.unusedSimpArgs false

/-- the tests of ClockDays at instant n -/
theorem days_plain {o : Int} {l : List (Int × Int)} (hV : ZVal o l) (n : Int) (h0 : 0 ≤ n) (h1 : n + 1 ≤ 120968639) :
    (0 ≤ dayV o l n ∧ dayV o l n ≤ 84005) ∧ beginV o l (dayV o l n) ≤ n ∧ n < beginV o l (dayV o l n + 1) ∧
      ((dayV o l (n + 1) = dayV o l n ∧ n + 1 < beginV o l (dayV o l n + 1)) ∨ (dayV o l n < dayV o l (n + 1) ∧ n + 1 = beginV o l (dayV o l n + 1))) := by
  have hb := dayV_bd hV n ⟨h0, by omega⟩
  have hb1 := dayV_bd hV (n + 1) ⟨by omega, h1⟩
  have a1 := (begin_iff hV (dayV o l n) n ⟨h0, by omega⟩ hb.1 (by omega)).2 (Int.le_refl _)
  have a2 := begin_iff hV (dayV o l n + 1) n ⟨h0, by omega⟩ (by omega) (by omega)
  have a3 := begin_iff hV (dayV o l n + 1) (n + 1) ⟨by omega, h1⟩ (by omega) (by omega)
  have a4 := begin_iff hV (dayV o l n) (n + 1) ⟨by omega, h1⟩ (by omega) (by omega)
  generalize dayV o l n = d at *
  generalize dayV o l (n + 1) = d' at *
  generalize beginV o l d = b at *
  generalize beginV o l (d + 1) = b' at *
  omega

theorem ZD.more {w W : World} {g z c : Nat} {N N' o : Int} {A : Option Addr} {l : List (Int × Int)} (h : ZD w g N z o A c l W) (hN : N ≤ N') : ZD w g N' z o A c l W :=
  ⟨⟨h.dr.below, h.dr.deck.more hN, h.dr.rd, h.dr.ne, h.dr.base⟩, h.box, h.zg⟩

set_option maxHeartbeats 1600000 in
set_option maxRecDepth 100000 in
theorem clockDays_walk (A0 : Option Addr) (c0 : Nat) (l0 : List Int) (at0 : Int) (w : World) (hr0 : RdI w w.heap.size A0 l0) (hl0 : l0.length ≤ 9223372036854775807) (hb0 : ∀ i, i < l0.length → InR (at1 l0 i)) (hat : InR at0) :
    Calls Try.prog 6 #[.slice A0 l0.length c0, .int .i64 at0] w (RetB true w) := by
  have HBR := Lib.hid (law_start A0 c0 l0 w hr0 hl0)
  clear hr0 hb0
  generalize hg : w.heap.size = g at HBR
  have HG := Lib.hid hg
  clear hg
  go_enter Try.func6, Try.ntmps6
  go_wp2_with fail
  refine HBR.out.mono ?_
  rintro e w1 ⟨rfl, hbr⟩
  have HBR := Lib.hid hbr
  clear hbr
  go_wp2_with fail
  refine HBR.out.mono ?_
  rintro e w2 ⟨o, A, c, l, rfl, hV, hdr⟩
  have HV := Lib.hid hV
  have HZ := Lib.hid (hdr.box (o := o) (c := c))
  clear hdr hV HBR
  go_wp2_with fail
  refine (mod_any at0 120968639 _ (by omega) (by omega)).mono ?_
  rintro e w3 ⟨rfl, rfl⟩
  have hmb := mod_bd at0 120968639 (by omega)
  generalize at0 % 120968639 = n0 at *
  go_wp2_with fail
  refine (next_any g 20 _ _ HZ.out.dr.deck (by omega) (by omega) (by omega)).mono ?_
  rintro e w4 ⟨m, rfl, hm, ho, hD⟩
  have HZ := Lib.hid (HZ.out.draw ho hD)
  clear ho hD
  generalize w2.heap.size = z at *
  have HN : Hid (∀ W, ZD w g (20 + 1) z o A c l W → Calls Try.prog 11 #[.pointer (some ⟨g, 0, none⟩)] W (fun e w' => ∃ v, e = .returned (.int .i64 v) ∧ (0 ≤ v ∧ v < 120968639) ∧ ZD w g (20 + 4) z o A c l w')) := Lib.hid (fun W h => (near_any g (20 + 1) W h.dr.deck (by omega)).mono (by
    rintro e w5 ⟨v, rfl, hv, ho, hD⟩
    exact ⟨v, rfl, by omega, h.draw ho (hD.more (by omega))⟩))
  by_cases hm0 : 0 < m
  · have d0 : decide (0 < m) = true := by simpa using hm0
    clear hm0
    go_wp2_with fail
    refine (HN.out _ HZ.out).mono ?_
    rintro e w5 ⟨n, rfl, hn, hz5⟩
    have HZ := Lib.hid hz5
    clear hz5 HN hmb
    have z0 := HZ.out.c0
    have z1 := HZ.out.c1
    have hp := days_plain HV.out n hn.1 (by omega)
    go_wp2_with fail
    refine (day_ok c HZ.out.dr HV.out n ⟨by omega, by omega⟩).mono ?_
    rintro e w6 ⟨rfl, hb⟩
    have HZ := Lib.hid (HZ.out.calc_ hb)
    clear hb z0 z1
    obtain ⟨⟨p0, p1⟩, p2, p3, p4⟩ := hp
    have HB1 : Hid (∀ W, ZD w g (20 + 4) z o A c l W → Calls Try.prog 17 #[.agg #[.int .i64 o, .slice A l.length c], .int .i64 (dayV o l n)] W (RetII (beginV o l (dayV o l n)) 0 W)) := Lib.hid (fun W h => begin_ok c h.dr HV.out _ p0 (by omega))
    have HB2 : Hid (∀ W, ZD w g (20 + 4) z o A c l W → Calls Try.prog 17 #[.agg #[.int .i64 o, .slice A l.length c], .int .i64 (dayV o l n + 1)] W (RetII (beginV o l (dayV o l n + 1)) 0 W)) := Lib.hid (fun W h => begin_ok c h.dr HV.out _ (by omega) (by omega))
    have HD2 : Hid (∀ W, ZD w g (20 + 4) z o A c l W → Calls Try.prog 20 #[.agg #[.int .i64 o, .slice A l.length c], .int .i64 (n + 1)] W (RetII (dayV o l (n + 1)) 0 W)) := Lib.hid (fun W h => day_ok c h.dr HV.out _ ⟨by omega, by omega⟩)
    generalize beginV o l (dayV o l n) = b at *
    generalize beginV o l (dayV o l n + 1) = b' at *
    generalize dayV o l n = d at *
    generalize dayV o l (n + 1) = d' at *
    have z0 := HZ.out.c0
    have z1 := HZ.out.c1
    go_wp2_with fail
    refine (HB1.out _ HZ.out).mono ?_
    rintro e w7 ⟨rfl, hb⟩
    have HZ := Lib.hid (HZ.out.calc_ hb)
    clear hb z0 z1
    have z0 := HZ.out.c0
    have z1 := HZ.out.c1
    go_wp2_with fail
    refine (HB2.out _ HZ.out).mono ?_
    rintro e w8 ⟨rfl, hb⟩
    have HZ := Lib.hid (HZ.out.calc_ hb)
    clear hb z0 z1
    have z0 := HZ.out.c0
    have z1 := HZ.out.c1
    go_wp2_with fail
    refine (HD2.out _ HZ.out).mono ?_
    rintro e w9 ⟨rfl, hb⟩
    have HZ := Lib.hid (HZ.out.calc_ hb)
    clear hb z0 z1 HB1 HB2 HD2
    have t1 : decide (b ≤ n) = true := by simpa using p2
    have t2 : decide (n < b') = true := by simpa using p3
    rcases p4 with ⟨p4, p5⟩ | ⟨p4, p5⟩
    · subst p4
      have t3 : decide (n + 1 < b') = true := by simpa using p5
      go_wp2_with fail
      refine (sane_any _).mono ?_
      rintro e w11 ⟨rfl, hb⟩
      have HZ := Lib.hid (HZ.out.calc_ hb)
      clear hb
      go_wp2
      go_ret
      exact ⟨rfl, HZ.out.dr.below⟩
    · subst p5
      have t3 : (d' == d) = false := by simp; omega
      have t4 : decide (d < d') = true := by simpa using p4
      go_wp2_with fail
      refine (sane_any _).mono ?_
      rintro e w11 ⟨rfl, hb⟩
      have HZ := Lib.hid (HZ.out.calc_ hb)
      clear hb
      go_wp2
      go_ret
      exact ⟨rfl, HZ.out.dr.below⟩
  · have d0 : decide (0 < m) = false := by simpa using hm0
    clear hm0 HN
    have HZ := Lib.hid (HZ.out.more (N' := 20 + 4) (by omega))
    obtain ⟨n, hnn, hn⟩ : ∃ n, n = n0 ∧ 0 ≤ n ∧ n < 120968639 := ⟨n0, rfl, by omega⟩
    subst hnn
    clear hmb
    have z0 := HZ.out.c0
    have z1 := HZ.out.c1
    have hp := days_plain HV.out n hn.1 (by omega)
    go_wp2_with fail
    refine (day_ok c HZ.out.dr HV.out n ⟨by omega, by omega⟩).mono ?_
    rintro e w6 ⟨rfl, hb⟩
    have HZ := Lib.hid (HZ.out.calc_ hb)
    clear hb z0 z1
    obtain ⟨⟨p0, p1⟩, p2, p3, p4⟩ := hp
    have HB1 : Hid (∀ W, ZD w g (20 + 4) z o A c l W → Calls Try.prog 17 #[.agg #[.int .i64 o, .slice A l.length c], .int .i64 (dayV o l n)] W (RetII (beginV o l (dayV o l n)) 0 W)) := Lib.hid (fun W h => begin_ok c h.dr HV.out _ p0 (by omega))
    have HB2 : Hid (∀ W, ZD w g (20 + 4) z o A c l W → Calls Try.prog 17 #[.agg #[.int .i64 o, .slice A l.length c], .int .i64 (dayV o l n + 1)] W (RetII (beginV o l (dayV o l n + 1)) 0 W)) := Lib.hid (fun W h => begin_ok c h.dr HV.out _ (by omega) (by omega))
    have HD2 : Hid (∀ W, ZD w g (20 + 4) z o A c l W → Calls Try.prog 20 #[.agg #[.int .i64 o, .slice A l.length c], .int .i64 (n + 1)] W (RetII (dayV o l (n + 1)) 0 W)) := Lib.hid (fun W h => day_ok c h.dr HV.out _ ⟨by omega, by omega⟩)
    generalize beginV o l (dayV o l n) = b at *
    generalize beginV o l (dayV o l n + 1) = b' at *
    generalize dayV o l n = d at *
    generalize dayV o l (n + 1) = d' at *
    have z0 := HZ.out.c0
    have z1 := HZ.out.c1
    go_wp2_with fail
    refine (HB1.out _ HZ.out).mono ?_
    rintro e w7 ⟨rfl, hb⟩
    have HZ := Lib.hid (HZ.out.calc_ hb)
    clear hb z0 z1
    have z0 := HZ.out.c0
    have z1 := HZ.out.c1
    go_wp2_with fail
    refine (HB2.out _ HZ.out).mono ?_
    rintro e w8 ⟨rfl, hb⟩
    have HZ := Lib.hid (HZ.out.calc_ hb)
    clear hb z0 z1
    have z0 := HZ.out.c0
    have z1 := HZ.out.c1
    go_wp2_with fail
    refine (HD2.out _ HZ.out).mono ?_
    rintro e w9 ⟨rfl, hb⟩
    have HZ := Lib.hid (HZ.out.calc_ hb)
    clear hb z0 z1 HB1 HB2 HD2
    have t1 : decide (b ≤ n) = true := by simpa using p2
    have t2 : decide (n < b') = true := by simpa using p3
    rcases p4 with ⟨p4, p5⟩ | ⟨p4, p5⟩
    · subst p4
      have t3 : decide (n + 1 < b') = true := by simpa using p5
      go_wp2_with fail
      refine (sane_any _).mono ?_
      rintro e w11 ⟨rfl, hb⟩
      have HZ := Lib.hid (HZ.out.calc_ hb)
      clear hb
      go_wp2
      go_ret
      exact ⟨rfl, HZ.out.dr.below⟩
    · subst p5
      have t3 : (d' == d) = false := by simp; omega
      have t4 : decide (d < d') = true := by simpa using p4
      go_wp2_with fail
      refine (sane_any _).mono ?_
      rintro e w11 ⟨rfl, hb⟩
      have HZ := Lib.hid (HZ.out.calc_ hb)
      clear hb
      go_wp2
      go_ret
      exact ⟨rfl, HZ.out.dr.below⟩

theorem segs_one (o a x : Int) (h : 0 < a) : segs o [(a, x)] = [(0, a, o), (a, 120968640, x)] := by
  have h1 : sFrom [(a, x)] 0 < fst2 [(a, x)] 0 := by simp [sFrom, fst2]; exact h
  unfold segs
  rw [show [(a, x)].length = 0 + 1 from rfl, sgTo_yes h1]
  simp [sgTo, sFrom, sOff, fst2, snd2]
theorem segs_nil (o : Int) : segs o [] = [(0, 120968640, o)] := by simp [segs, sgTo, sFrom, sOff]
theorem zval_one {o a x : Int} (h : offOk o) (hx : offOk x) (h0 : 0 ≤ a) (h1 : a ≤ 120968639) : ZVal o [(a, x)] := by
  refine ⟨by simp, h, fun i hi => ?_, fun i hi => by simp at hi⟩
  have : i = 0 := by simpa using hi
  subst this
  exact ⟨h0, h1, hx⟩
theorem zval_nil {o : Int} (h : offOk o) : ZVal o [] := ⟨by simp, h, fun i hi => by simp at hi, fun i hi => by simp at hi⟩
theorem begin_nil {o d : Int} (h : -300 ≤ o ∧ o ≤ 570) (h0 : 1 ≤ d) (h1 : d ≤ 84004) : beginV o [] d = d * 1440 - o := by
  unfold beginV firstV
  rw [if_neg (by omega), if_neg (by omega), if_neg (by omega), segs_nil]
  unfold firstL
  rw [if_pos (by dsimp only; omega)]
  dsimp only
  omega
theorem begin_before {o a x d : Int} (h : -300 ≤ o ∧ o ≤ 570) (ha : 0 < a) (h1 : 1 ≤ d) (h2 : d * 1440 + 300 < a) (h3 : a ≤ 29458080) : beginV o [(a, x)] d = d * 1440 - o := by
  unfold beginV firstV
  rw [if_neg (by omega), if_neg (by omega), if_neg (by omega), segs_one _ _ _ ha]
  unfold firstL
  rw [if_pos (by dsimp only; omega)]
  dsimp only
  omega
theorem begin_after {o a x d : Int} (h : -300 ≤ o ∧ o ≤ 570) (hx : -360 ≤ x ∧ x ≤ 630) (ha : 0 < a) (h2 : a + 700 < d * 1440) (h3 : d ≤ 80000) : beginV o [(a, x)] d = d * 1440 - x := by
  unfold beginV firstV
  rw [if_neg (by omega), if_neg (by omega), if_neg (by omega), segs_one _ _ _ ha]
  unfold firstL
  rw [if_neg (by dsimp only; omega)]
  unfold firstL
  rw [if_pos (by dsimp only; omega)]
  dsimp only
  omega
/-- a zone of one change in memory -/
structure LZ (w : World) (z h : Nat) (o a x : Int) (W : World) : Prop where
  below : Below w.heap.size w W
  box : Blk W z 27 #[.int .i64 o, .slice (some ⟨h, 0, none⟩) 1 1]
  rd : RdP W (h + 1) (some ⟨h, 0, none⟩) [(a, x)]
  lt : h < W.heap.size
theorem LZ.calc_ {w W W' : World} {z h : Nat} {o a x : Int} (k : LZ w z h o a x W) (hb : Below W.heap.size W W') : LZ w z h o a x W' :=
  ⟨k.below.trans (hb.mono k.below.size), k.box.below hb k.box.lt, k.rd.below (hb.mono (by have := k.lt; omega)), by have := k.lt; have := hb.size; omega⟩
theorem set_size (W : World) (p : Addr) (u : Value) : (W.setCell p u).heap.size = W.heap.size := by simp [World.setCell]
theorem LZ.start {w W : World} {z : Nat} {o a x : Int} (hb : Below w.heap.size w W) (hbox : Blk W z 27 #[.int .i64 o, .slice none 0 0]) (hz : w.heap.size ≤ z) :
    LZ w z W.heap.size o a x ((W.setCell ⟨z, 1, none⟩ (.slice (some ⟨W.heap.size, 0, none⟩) 1 1)).alloc (.cells #[.int .i64 a, .int .i64 x] 40)) := by
  have hlt := hbox.lt
  have hs := set_size W ⟨z, 1, none⟩ (.slice (some ⟨W.heap.size, 0, none⟩) 1 1)
  have hb' := hb.setCell (p := ⟨z, 1, none⟩) hz (.slice (some ⟨W.heap.size, 0, none⟩) 1 1)
  refine ⟨hb'.alloc hb'.size _, ?_, ?_, by simp [World.setCell]⟩
  · have := (hbox.set_ 1 (.slice (some ⟨W.heap.size, 0, none⟩) 1 1)).alloc (.cells #[.int .i64 a, .int .i64 x] 40)
    simpa using this
  · have := rdP_one (W.setCell ⟨z, 1, none⟩ (.slice (some ⟨W.heap.size, 0, none⟩) 1 1)) a x 40
    rwa [hs] at this

set_option maxHeartbeats 1600000 in
set_option maxRecDepth 100000 in
theorem clockLengths_walk (A0 : Option Addr) (c0 : Nat) (l0 : List Int) (n0 : Int) (w : World) (hr0 : RdI w w.heap.size A0 l0) (hl0 : l0.length ≤ 9223372036854775807) (hb0 : ∀ i, i < l0.length → InR (at1 l0 i)) (hat : InR n0) :
    Calls Try.prog 4 #[.slice A0 l0.length c0, .int .i64 n0] w (RetB true w) := by
  have HBR := Lib.hid (new_any A0 c0 l0 w hr0 hl0)
  clear hr0 hb0
  generalize hg : w.heap.size = g at HBR
  have HG := Lib.hid hg
  clear hg
  go_enter Try.func4, Try.ntmps4
  go_wp2_with fail
  refine HBR.out.mono ?_
  rintro e w1 ⟨rfl, hb1, hD1, hs1⟩
  have HB := Lib.hid hb1
  have HD := Lib.hid hD1
  have HS := Lib.hid hs1
  clear hb1 hD1 hs1 HBR
  go_wp2_with fail
  refine (pick_new g 0 [60, -60, 30, 0] w1 3 4 HD.out (by omega) (by decide) (by decide)).mono ?_
  rintro e w2 ⟨b, rfl, hb, ho, hD⟩
  have HB := Lib.hid (HB.out.trans (ho.below (by have := HS.out; omega) (Nat.le_refl _)))
  have HD := Lib.hid hD
  have hs2 := ho.size
  have hbb : -60 ≤ b ∧ b ≤ 60 := by simp at hb; omega
  clear ho hD hb HS
  go_wp2_with fail
  refine (pick_new g _ [0, 60, -300, 570] w2 3 4 HD.out (by omega) (by decide) (by decide)).mono ?_
  rintro e w3 ⟨o, rfl, hoo, ho, hD⟩
  have hs3 := ho.size
  have HB := Lib.hid (HB.out.trans (ho.below (by have := HB.out.size; have := HG.out; omega) (Nat.le_refl _)))
  have HD := Lib.hid hD
  have hob : -300 ≤ o ∧ o ≤ 570 := by simp at hoo; omega
  clear ho hD hoo
  go_wp2_with fail
  refine (next_any g _ _ _ (HD.out.alloc _) (by omega) (by omega) (by omega)).mono ?_
  rintro e w4 ⟨m, rfl, hm, ho, hD⟩
  have HBox := Lib.hid ((Blk.new w3 27 #[.int .i64 o, .slice none 0 0]).grown ho (by have := HD.out.lt; intro e; injection e; omega))
  have HB := Lib.hid ((HB.out.alloc (by have := HB.out.size; have := HG.out; omega) _).trans (ho.below (by have := HB.out.size; have := HG.out; simp; omega) (Nat.le_refl _)))
  have hzl : Hid (w.heap.size ≤ w3.heap.size) := Lib.hid (by have := HD.out.lt; have := HG.out; omega)
  have z0 := HBox.out.cell 0
  have z1 := HBox.out.cell 1
  have zf := HBox.out.frozen 1
  have hz4 := HBox.out.lt
  simp at z0 z1
  clear ho hD
  generalize w3.heap.size = z at *
  have HL : Hid (LZ w z w4.heap.size o (29453760 + m) (o + b) _) := Lib.hid (LZ.start (by rw [HG.out]; exact HB.out) HBox.out hzl.out)
  clear HBox HD HB
  have HV : Hid (ZVal o [(29453760 + m, o + b)]) := Lib.hid (zval_one ⟨by omega, by omega⟩ ⟨by omega, by omega⟩ (by omega) (by omega))
  have hlt4 := HL.out.lt
  have HC1 : Hid (∀ W, LZ w z w4.heap.size o (29453760 + m) (o + b) W → Calls Try.prog 17 #[.agg #[.int .i64 o, .slice (some ⟨w4.heap.size, 0, none⟩) 1 1], .int .i64 20452] W (RetII (29450880 - o) 0 W)) := Lib.hid (fun W k => by
    have := begin_any _ 1 _ o _ W k.rd k.lt (by simp) 20452
    unfold begR begE at this
    rw [if_pos ⟨zerr_of HV.out, by omega, by omega⟩, if_pos (zerr_of HV.out), if_pos ⟨by omega, by omega⟩, begin_before hob (by omega) (by omega) (by omega) (by omega)] at this
    exact this)
  have HC2 : Hid (∀ W, LZ w z w4.heap.size o (29453760 + m) (o + b) W → Calls Try.prog 17 #[.agg #[.int .i64 o, .slice (some ⟨w4.heap.size, 0, none⟩) 1 1], .int .i64 20460] W (RetII (29462400 - (o + b)) 0 W)) := Lib.hid (fun W k => by
    have := begin_any _ 1 _ o _ W k.rd k.lt (by simp) 20460
    unfold begR begE at this
    rw [if_pos ⟨zerr_of HV.out, by omega, by omega⟩, if_pos (zerr_of HV.out), if_pos ⟨by omega, by omega⟩, begin_after hob (by omega) (by omega) (by omega) (by omega)] at this
    exact this)
  have HC3 : Hid (∀ (d : Int) W, 1 ≤ d → d ≤ 84004 → Calls Try.prog 17 #[.agg #[.int .i64 o, .slice none 0 0], .int .i64 d] W (RetII (d * 1440 - o) 0 W)) := Lib.hid (fun d W d1 d2 => by
    have := begin_any none 0 0 o [] W Rd.none_ (Nat.zero_le _) (by simp) d
    unfold begR begE at this
    rw [if_pos ⟨zerr_of (zval_nil ⟨by omega, by omega⟩), by omega, by omega⟩, if_pos (zerr_of (zval_nil ⟨by omega, by omega⟩)), if_pos ⟨by omega, by omega⟩, begin_nil hob d1 d2] at this
    exact this)
  clear hlt4
  go_wp2_with fail
  refine (HC1.out _ HL.out).mono ?_
  rintro e w5 ⟨rfl, hb⟩
  have HL := Lib.hid (HL.out.calc_ hb)
  clear hb z0 z1 zf hz4
  generalize w4.heap.size = h at *
  have z0 := HL.out.box.cell 0
  have z1 := HL.out.box.cell 1
  simp at z0 z1
  go_wp2_with fail
  refine (HC2.out _ HL.out).mono ?_
  rintro e w6 ⟨rfl, hb⟩
  have HL := Lib.hid (HL.out.calc_ hb)
  clear hb z0 z1
  have z0 := HL.out.box.cell 0
  simp at z0
  go_wp2_with fail
  refine (mod_any n0 84003 _ (by omega) (by omega)).mono ?_
  rintro e w7 ⟨rfl, rfl⟩
  have hmb := mod_bd n0 84003 (by omega)
  generalize n0 % 84003 = d at *
  go_wp2_with fail
  refine (HC3.out (1 + d) _ (by omega) (by omega)).mono ?_
  rintro e w8 ⟨rfl, hb⟩
  have HL := Lib.hid (HL.out.calc_ hb)
  clear hb z0
  have z0 := HL.out.box.cell 0
  simp at z0
  go_wp2_with fail
  refine (HC3.out (1 + d + 1) _ (by omega) (by omega)).mono ?_
  rintro e w9 ⟨rfl, hb⟩
  have HL := Lib.hid (HL.out.calc_ hb)
  clear hb z0 HC1 HC2 HC3
  have t1 : (29462400 - (o + b) - (29450880 - o) == 11520 - b) = true := by simp; omega
  have t2 : ((1 + d + 1) * 1440 - o - ((1 + d) * 1440 - o) == 1440) = true := by simp; omega
  go_wp2_with fail
  refine (sane_any _).mono ?_
  rintro e w11 ⟨rfl, hb⟩
  have HL := Lib.hid (HL.out.calc_ hb)
  clear hb
  go_wp2
  go_ret
  exact ⟨rfl, HL.out.below⟩
end Go.Proofs.Ytmahhpemljopiaa
