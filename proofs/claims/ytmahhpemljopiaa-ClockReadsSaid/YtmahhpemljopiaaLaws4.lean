/-
  The walks of the laws ClockFirst, ClockDays.
-/
import Derived.Test.YtmahhpemljopiaaZoneGen
import Derived.Test.YtmahhpemljopiaaPlain4
import Derived.Test.YtmahhpemljopiaaSane
import Derived.Test.YtmahhpemljopiaaOpen
namespace Go.Proofs.Ytmahhpemljopiaa
open Go.RowKit
set_option linter.unusedVariables false
set_option linter.unusedSimpArgs false

theorem Rd.far {w w' : World} {B size n g : Nat} {A : Option Addr} {f : Nat → Nat → Value} (h : Rd w B size A n f) (ho : Only g w w') (hne : ∀ b off, A = some ⟨b, off, none⟩ → b ≠ g) : Rd w' B size A n f := fun hn => by
  obtain ⟨b, off, e, hb, hc⟩ := h hn
  exact ⟨b, off, e, hb, fun i j hi hj => ho.cell (hc i j hi hj) (by intro e'; injection e' with e'; exact hne b off e e')⟩

/-- a zone drawn, and the tape behind it -/
structure Dr (w : World) (g : Nat) (N : Int) (A : Option Addr) (l : List (Int × Int)) (W : World) : Prop where
  below : Below w.heap.size w W
  deck : Deck W g N
  rd : RdP W W.heap.size A l
  ne : ∀ b off, A = some ⟨b, off, none⟩ → b ≠ g
  base : g = w.heap.size
theorem Dr.draw {w W W' : World} {g : Nat} {N N' : Int} {A : Option Addr} {l : List (Int × Int)} (h : Dr w g N A l W) (ho : Only g W W') (hD : Deck W' g N') : Dr w g N' A l W' :=
  ⟨h.below.trans (ho.below h.below.size (by rw [h.base]; exact Nat.le_refl _)), hD, Rd.more (Rd.far h.rd ho h.ne) ho.size, h.ne, h.base⟩
theorem Dr.calc_ {w W W' : World} {g : Nat} {N : Int} {A : Option Addr} {l : List (Int × Int)} (h : Dr w g N A l W) (hb : Below W.heap.size W W') : Dr w g N A l W' :=
  ⟨h.below.trans (hb.mono h.below.size), h.deck.below hb h.deck.lt, Rd.more (h.rd.below hb) hb.size, h.ne, h.base⟩
/-- the same, with the zone in a variable at block z -/
structure ZD (w : World) (g : Nat) (N : Int) (z : Nat) (o : Int) (A : Option Addr) (c : Nat) (l : List (Int × Int)) (W : World) : Prop where
  dr : Dr w g N A l W
  box : Blk W z 27 #[.int .i64 o, .slice A l.length c]
  zg : g ≠ z
section
variable {w W W' : World} {g z c : Nat} {N N' o : Int} {A : Option Addr} {l : List (Int × Int)}
theorem Dr.box (h : Dr w g N A l W) : ZD w g N W.heap.size o A c l (W.alloc (.cells #[.int .i64 o, .slice A l.length c] 27)) :=
  ⟨h.calc_ ((Below.refl _ _).alloc (Nat.le_refl _) _), Blk.new _ _ _, by have := h.deck.lt; omega⟩
theorem ZD.draw (h : ZD w g N z o A c l W) (ho : Only g W W') (hD : Deck W' g N') : ZD w g N' z o A c l W' :=
  ⟨h.dr.draw ho hD, h.box.grown ho (by intro e; injection e with e; exact h.zg e.symm), h.zg⟩
theorem ZD.calc_ (h : ZD w g N z o A c l W) (hb : Below W.heap.size W W') : ZD w g N z o A c l W' :=
  ⟨h.dr.calc_ hb, h.box.below hb h.box.lt, h.zg⟩
theorem ZD.c0 (h : ZD w g N z o A c l W) : W.cell? ⟨z, 0, none⟩ = some (.int .i64 o) := h.box.cell 0
theorem ZD.c1 (h : ZD w g N z o A c l W) : W.cell? ⟨z, 1, none⟩ = some (.slice A l.length c) := h.box.cell 1
end

section
variable {w W : World} {g : Nat} {N o : Int} {A : Option Addr} {l : List (Int × Int)} (c : Nat) (h : Dr w g N A l W) (hV : ZVal o l)
include h hV
theorem local_ok (t : Int) (ht : instOk t) : Calls Try.prog 12 #[.agg #[.int .i64 o, .slice A l.length c], .int .i64 t] W (RetII (lmin o l t) 0 W) := by
  have := local_any A c _ o l W h.rd (Nat.le_refl _) (by have := hV.1; omega) t
  rwa [(loc_ok hV ht).1, (loc_ok hV ht).2] at this
theorem first_ok (t : Int) : Calls Try.prog 19 #[.agg #[.int .i64 o, .slice A l.length c], .int .i64 t] W (RetII (firstV o l t) 0 W) := by
  have := first_any A c _ o l W h.rd (Nat.le_refl _) (by have := hV.1; omega) t
  unfold firstR at this
  rwa [if_pos (zerr_of hV), zerr_of hV] at this
theorem begin_ok (d : Int) (h0 : 0 ≤ d) (h1 : d ≤ 84006) : Calls Try.prog 17 #[.agg #[.int .i64 o, .slice A l.length c], .int .i64 d] W (RetII (beginV o l d) 0 W) := by
  have := begin_any A c _ o l W h.rd (Nat.le_refl _) (by have := hV.1; omega) d
  unfold begR begE at this
  rwa [if_pos ⟨zerr_of hV, h0, h1⟩, if_pos (zerr_of hV), if_pos ⟨h0, h1⟩] at this
theorem day_ok (t : Int) (ht : instOk t) : Calls Try.prog 20 #[.agg #[.int .i64 o, .slice A l.length c], .int .i64 t] W (RetII (dayV o l t) 0 W) := by
  have := day_any A c _ o l W h.rd (Nat.le_refl _) (by have := hV.1; omega) t
  unfold dayR at this
  rwa [(loc_ok hV ht).1, if_pos rfl] at this
theorem inst_ok (t : Int) : Calls Try.prog 13 #[.agg #[.int .i64 o, .slice A l.length c], .int .i64 t] W (InstPost o l t W) :=
  instants_any A c _ o l W h.rd (Nat.le_refl _) (by have := hV.1; omega) t
end

/-- a law's first two statements -/
theorem law_start (A0 : Option Addr) (c0 : Nat) (l0 : List Int) (w : World) (hr0 : RdI w w.heap.size A0 l0) (hl0 : l0.length ≤ 9223372036854775807) :
    Calls Try.prog 9 #[.slice A0 l0.length c0] w fun e w1 => e = .returned (.pointer (some ⟨w.heap.size, 0, none⟩)) ∧
      Calls Try.prog 10 #[.pointer (some ⟨w.heap.size, 0, none⟩)] w1 fun e w2 => ∃ o A c l, e = .returned (.agg #[.int .i64 o, .slice A l.length c]) ∧ ZVal o l ∧ Dr w w.heap.size 20 A l w2 := by
  refine (new_any A0 c0 l0 w hr0 hl0).mono ?_
  rintro e w1 ⟨rfl, hb1, hD1, hs1⟩
  refine ⟨rfl, (zone_any w.heap.size 0 w1 hD1 (by omega)).mono ?_⟩
  rintro e w2 ⟨o, A, c, l, a, rfl, hgen, hr, hne, ho2, hD2⟩
  exact ⟨o, A, c, l, rfl, zgen_val hgen, hb1.trans (ho2.below hb1.size (Nat.le_refl _)), hD2, hr, fun b off e => by have := hne b off e; omega, rfl⟩

theorem first_plain {o : Int} {l : List (Int × Int)} (hV : ZVal o l) (loc : Int) (h1 : 840 < loc) (h2 : loc ≤ 120967799) :
    1 ≤ firstV o l loc ∧ firstV o l loc ≤ 120968639 ∧ loc ≤ lmin o l (firstV o l loc) ∧ ∀ y, 0 ≤ y → y < firstV o l loc → lmin o l y < loc := by
  have hb := firstV_bd hV loc
  have hm := lmin_bd hV 120968639
  have hle : firstV o l loc ≤ 120968639 := (firstV_iff hV loc 120968639 ⟨by omega, by omega⟩).2 ⟨120968639, by omega, by omega, by omega⟩
  have hlt : ∀ y, 0 ≤ y → y < firstV o l loc → lmin o l y < loc := by
    intro y h0 hy
    by_cases hc : loc ≤ lmin o l y
    · have := (firstV_iff hV loc y ⟨h0, by omega⟩).2 ⟨y, h0, by omega, hc⟩
      omega
    · omega
  obtain ⟨y, y0, y1, y2⟩ := (firstV_iff hV loc (firstV o l loc) ⟨hb.1, hle⟩).1 (Int.le_refl _)
  have he : y = firstV o l loc := by
    by_cases hc : y < firstV o l loc
    · have := hlt y y0 hc; omega
    · omega
  refine ⟨?_, hle, by rw [← he]; exact y2, hlt⟩
  by_cases hc : firstV o l loc = 0
  · have := lmin_bd hV 0
    rw [he, hc] at y2
    omega
  · omega

set_option maxHeartbeats 1600000 in
set_option maxRecDepth 100000 in
theorem clockFirst_walk (A0 : Option Addr) (c0 : Nat) (l0 : List Int) (w : World) (hr0 : RdI w w.heap.size A0 l0) (hl0 : l0.length ≤ 9223372036854775807) (hb0 : ∀ i, i < l0.length → InR (at1 l0 i)) :
    Calls Try.prog 5 #[.slice A0 l0.length c0] w (RetB true w) := by
  have HBR := Lib.hid (law_start A0 c0 l0 w hr0 hl0)
  clear hr0 hb0
  generalize hg : w.heap.size = g at HBR
  have HG := Lib.hid hg
  clear hg
  go_enter Try.func5, Try.ntmps5
  go_wp2_with fail
  refine HBR.out.mono ?_
  rintro e w1 ⟨rfl, hbr⟩
  have HBR := Lib.hid hbr
  clear hbr
  go_wp2_with fail
  refine HBR.out.mono ?_
  rintro e w2 ⟨o, A, c, l, rfl, hV, hdr⟩
  have HV := Lib.hid hV
  have HZ := Lib.hid (hdr.box (o := o) (c := c))
  clear hdr hV HBR
  go_wp2_with fail
  refine (near_any g 20 _ HZ.out.dr.deck (by omega)).mono ?_
  rintro e w3 ⟨n, rfl, hn, ho, hD⟩
  have HZ := Lib.hid (HZ.out.draw ho hD)
  clear ho hD
  generalize w2.heap.size = z at *
  go_wp2_with fail
  refine (next_any g (20 + 3) _ _ HZ.out.dr.deck (by omega) (by omega) (by omega)).mono ?_
  rintro e w4 ⟨m, rfl, hm, ho, hD⟩
  have HZ := Lib.hid (HZ.out.draw ho hD)
  have z0 := HZ.out.c0
  have z1 := HZ.out.c1
  clear ho hD
  have hp := first_plain HV.out (n + m - 1000) (by omega) (by omega)
  go_wp2_with fail
  refine (first_ok c HZ.out.dr HV.out (n + m - 1000)).mono ?_
  rintro e w5 ⟨rfl, hb⟩
  have HZ := Lib.hid (HZ.out.calc_ hb)
  have z0 := HZ.out.c0
  have z1 := HZ.out.c1
  clear hb
  obtain ⟨p1, p2, p3, p4⟩ := hp
  have HP4 := Lib.hid p4
  clear p4
  generalize firstV o l (n + m - 1000) = x at *
  have d1 : decide (x < 1) = false := by simp; omega
  have d2 : decide (120968639 < x) = false := by simp; omega
  go_wp2_with fail
  refine (local_ok c HZ.out.dr HV.out x ⟨by omega, by omega⟩).mono ?_
  rintro e w6 ⟨rfl, hb⟩
  have HZ := Lib.hid (HZ.out.calc_ hb)
  have z0 := HZ.out.c0
  have z1 := HZ.out.c1
  clear hb
  go_wp2_with fail
  refine (local_ok c HZ.out.dr HV.out (x - 1) ⟨by omega, by omega⟩).mono ?_
  rintro e w7 ⟨rfl, hb⟩
  have HZ := Lib.hid (HZ.out.calc_ hb)
  clear hb z0 z1
  go_wp2_with fail
  refine (next_any g _ _ _ HZ.out.dr.deck (by omega) (by omega) (by omega)).mono ?_
  rintro e w8 ⟨v, rfl, hv, ho, hD⟩
  have HZ := Lib.hid (HZ.out.draw ho hD)
  have z0 := HZ.out.c0
  have z1 := HZ.out.c1
  clear ho hD
  go_wp2_with fail
  refine (mod_any v x _ (by omega) (by omega)).mono ?_
  rintro e w9 ⟨rfl, rfl⟩
  have hmb := mod_bd v x (by omega)
  generalize v % x = e9 at *
  have hmin : (if x - 1 < e9 then x - 1 else e9) = e9 := if_neg (by omega)
  have q1 := HP4.out (x - 1) (by omega) (by omega)
  have q2 := HP4.out (x - 1 - e9) (by omega) (by omega)
  go_wp2_with fail
  refine (local_ok c HZ.out.dr HV.out (x - 1 - e9) ⟨by omega, by omega⟩).mono ?_
  rintro e w10 ⟨rfl, hb⟩
  have HZ := Lib.hid (HZ.out.calc_ hb)
  clear hb z0 z1
  generalize lmin o l x = a1 at *
  generalize lmin o l (x - 1) = a2 at *
  generalize lmin o l (x - 1 - e9) = a3 at *
  have t1 : decide (n + m - 1000 ≤ a1) = true := by simpa using p3
  have t2 : decide (a2 < n + m - 1000) = true := by simpa using q1
  have t3 : decide (a3 < n + m - 1000) = true := by simpa using q2
  go_wp2_with fail
  refine (sane_any _).mono ?_
  rintro e w11 ⟨rfl, hb⟩
  have HZ := Lib.hid (HZ.out.calc_ hb)
  clear hb
  go_wp2
  go_ret
  exact ⟨rfl, HZ.out.dr.below⟩
end Go.Proofs.Ytmahhpemljopiaa
