/-
  The walks of the laws BracketSplits, BracketGrows, BracketConvex.
-/
import Derived.Test.YtflbndcdnenkdaaIncome29
import Derived.Test.YtflbndcdnenkdaaAwake29
import Derived.Test.YtflbndcdnenkdaaLeast29
import Derived.Test.YtflbndcdnenkdaaOpen
namespace Go.Proofs.Ytflbndcdnenkdaa
open Go.RowKit
set_option linter.unusedVariables false
set_option linter.unusedSimpArgs false

/-- the beginning of every law: a deck, and a schedule drawn from it -/
theorem deck_start {w w1 : World} {g : Nat} (h : Below w.heap.size w w1) (hg : g = w.heap.size) {w2 : World} (h2 : Only g w1 w2) : Below w.heap.size w w2 :=
  h.trans (h2.below h.size (by omega))
theorem own_ne {w : World} {base g : Nat} {A : Option Addr} {c : Nat} {l : List (Int × Int)} (h : OwnP w base A c l) (hg : g < base) : ∀ b off, A = some ⟨b, off, none⟩ → b ≠ g := by
  rintro b off rfl
  have := (World.ownsRow.lt h b rfl).1
  omega

theorem Rd.far {w w' : World} {B size n g : Nat} {A : Option Addr} {f : Nat → Nat → Value} (h : Rd w B size A n f) (ho : Only g w w') (hne : ∀ b off, A = some ⟨b, off, none⟩ → b ≠ g) : Rd w' B size A n f := fun hn => by
  obtain ⟨b, off, e, hb, hc⟩ := h hn
  exact ⟨b, off, e, hb, fun i j hi hj => ho.cell (hc i j hi hj) (by intro e'; injection e' with e'; exact hne b off e e')⟩
theorem RdP.far {w w' : World} {B g : Nat} {A : Option Addr} {l : List (Int × Int)} (h : RdP w B A l) (ho : Only g w w') (hne : ∀ b off, A = some ⟨b, off, none⟩ → b ≠ g) : RdP w' B A l := Rd.far h ho hne

/-- a schedule drawn, and the deck behind it: what stays true while numbers are drawn and taxes computed -/
structure Dr (w : World) (g : Nat) (N : Int) (A : Option Addr) (l : List (Int × Int)) (W : World) : Prop where
  below : Below w.heap.size w W
  deck : Deck W g N
  rd : RdP W W.heap.size A l
  ne : ∀ b off, A = some ⟨b, off, none⟩ → b ≠ g
  base : g = w.heap.size
theorem Dr.draw {w W W' : World} {g : Nat} {N N' : Int} {A : Option Addr} {l : List (Int × Int)} (h : Dr w g N A l W) (ho : Only g W W') (hD : Deck W' g N') : Dr w g N' A l W' :=
  ⟨h.below.trans (ho.below h.below.size (by rw [h.base]; exact Nat.le_refl _)), hD, Rd.more (Rd.far h.rd ho h.ne) ho.size, h.ne, h.base⟩
theorem Dr.calc_ {w W W' : World} {g : Nat} {N : Int} {A : Option Addr} {l : List (Int × Int)} (h : Dr w g N A l W) (hb : Below W.heap.size W W') : Dr w g N A l W' :=
  ⟨h.below.trans (hb.mono h.below.size), h.deck.below hb h.deck.lt, Rd.more (h.rd.below hb) hb.size, h.ne, h.base⟩
theorem Dr.start {b : Bool} {w w1 w2 : World} {g : Nat} {N N' : Int} {A : Option Addr} {c : Nat} {l : List (Int × Int)} (hb : Below w.heap.size w w1) (hs : w1.heap.size = w.heap.size + 1) (hg : g = w.heap.size) (hown : OwnP w2 w1.heap.size A c l) (ho : Only g w1 w2) (hD : Deck w2 g N') : Dr w g N' A l w2 :=
  ⟨hb.trans (ho.below hb.size (by omega)), hD, own_rd hown, own_ne hown (by omega), hg⟩

section
variable {w W : World} {g : Nat} {N : Int} {A : Option Addr} {l : List (Int × Int)} (c : Nat) (h : Dr w g N A l W) (hV : Val l) (n : Int) (h0 : 0 ≤ n) (h1 : n ≤ 1000000000000)
include h hV h0 h1
theorem exact_ok : Calls Try.prog 21 #[.slice A l.length c, .int .i64 n] W (RetII (exL l n) 0 W) := by
  have := exact_any A c _ l W h.rd (Nat.le_refl _) (by have := hV.2.1; omega) n
  rw [chk_ok hV h0 h1] at this
  unfold exactV at this
  rwa [if_pos (chk_ok hV h0 h1)] at this
theorem marginal_ok : Calls Try.prog 25 #[.slice A l.length c, .int .i64 n] W (RetII (mgL l n l.length) 0 W) := by
  have := marginal_any A c _ l W h.rd (Nat.le_refl _) (by have := hV.2.1; omega) n
  rw [chk_ok hV h0 h1] at this
  unfold margV at this
  rwa [if_pos (chk_ok hV h0 h1)] at this
end

/-- a law's first two statements -/
theorem law_start (b : Bool) {P : World → Ending → World → Prop} (A0 : Option Addr) (c0 : Nat) (l0 : List Int) (w : World) (hr0 : RdI w w.heap.size A0 l0) (hl0 : l0.length ≤ 9223372036854775807) :
    Calls Try.prog 13 #[.slice A0 l0.length c0] w fun e w1 => e = .returned (.pointer (some ⟨w.heap.size, 0, none⟩)) ∧
      Calls Try.prog 14 #[.pointer (some ⟨w.heap.size, 0, none⟩), .bool b] w1 fun e w2 => ∃ A c l, e = .returned (.slice A l.length c) ∧ Gen b l ∧ OwnP w2 w1.heap.size A c l ∧ w.heap.size < w1.heap.size ∧ Dr w w.heap.size 20 A l w2 := by
  refine (new_any A0 c0 l0 w hr0 hl0).mono ?_
  rintro e w1 ⟨rfl, hb1, hD1, hs1⟩
  refine ⟨rfl, (brackets_any b w.heap.size 0 w1 hD1 (by omega)).mono ?_⟩
  rintro e w2 ⟨A, c, l, rfl, hgen, hown, ho2, hD2⟩
  exact ⟨A, c, l, rfl, hgen, hown, by omega, Dr.start (b := b) (N := 0) hb1 hs1 rfl hown ho2 hD2⟩

set_option maxHeartbeats 1600000 in
theorem bracketConvex_walk (A0 : Option Addr) (c0 : Nat) (l0 : List Int) (w : World) (hr0 : RdI w w.heap.size A0 l0) (hl0 : l0.length ≤ 9223372036854775807) (hb0 : ∀ i, i < l0.length → InR (at1 l0 i)) :
    Calls Try.prog 7 #[.slice A0 l0.length c0] w (RetB true w) := by
  go_enter Try.func7, Try.ntmps7
  go_wp2_with fail
  refine (law_start true (P := fun _ _ _ => True) A0 c0 l0 w hr0 hl0).mono ?_
  rintro e w1 ⟨rfl, hbr⟩
  have HBR := Lib.hid hbr
  clear hbr hr0 hb0
  generalize hg : w.heap.size = g at *
  have HG := Lib.hid hg
  clear hg
  go_wp2_with fail
  refine HBR.out.mono ?_
  rintro e w2 ⟨A, c, l, rfl, hgen, _, _, hdr⟩
  have hl4 := hgen.2.1
  have HV := Lib.hid (gen_val hgen)
  have HGen := Lib.hid hgen
  have HDr := Lib.hid hdr
  clear hgen hdr HBR
  go_wp2_with fail
  refine (small_any g 20 _ HDr.out.deck (by omega)).mono ?_
  rintro e w3 ⟨n, rfl, hn, ho, hD⟩
  have HDr := Lib.hid (HDr.out.draw ho hD)
  clear ho hD
  go_wp2_with fail
  refine (small_any g (20 + 2) _ HDr.out.deck (by omega)).mono ?_
  rintro e w4 ⟨m, rfl, hm, ho, hD⟩
  have HDr := Lib.hid (HDr.out.draw ho hD)
  clear ho hD
  go_wp2_with fail
  refine (exact_ok c HDr.out HV.out (10 * n) (by omega) (by omega)).mono ?_
  rintro e w5 ⟨rfl, hb⟩
  have HDr := Lib.hid (HDr.out.calc_ hb)
  clear hb
  go_wp2_with fail
  refine (exact_ok c HDr.out HV.out (10 * m) (by omega) (by omega)).mono ?_
  rintro e w6 ⟨rfl, hb⟩
  have HDr := Lib.hid (HDr.out.calc_ hb)
  clear hb
  go_wp2_with fail
  refine (exact_ok c HDr.out HV.out (10 * n + 10 * m) (by omega) (by omega)).mono ?_
  rintro e w7 ⟨rfl, hb⟩
  have HDr := Lib.hid (HDr.out.calc_ hb)
  clear hb
  go_wp2_with fail
  refine (marginal_ok c HDr.out HV.out (10 * n) (by omega) (by omega)).mono ?_
  rintro e w8 ⟨rfl, hb⟩
  have HDr := Lib.hid (HDr.out.calc_ hb)
  clear hb
  go_wp2_with fail
  refine (marginal_ok c HDr.out HV.out (10 * n + 10 * m) (by omega) (by omega)).mono ?_
  rintro e w9 ⟨rfl, hb⟩
  have HDr := Lib.hid (HDr.out.calc_ hb)
  clear hb
  have x1 := exTo_bd (n := 10 * n) HV.out (by omega) (by omega) l.length (Nat.le_refl _)
  have x2 := exTo_bd (n := 10 * m) HV.out (by omega) (by omega) l.length (Nat.le_refl _)
  have x3 : exL l (10 * n) + exL l (10 * m) ≤ exL l (10 * n + 10 * m) := by
    have hv := HV.out
    have := ex_super (F := fst2 l) (R := snd2 l) (m := l.length) (n := 10 * n) (val_mono hv) hv.2.2.1 (fun i hi => (val_from hv i hi).1) (by have := hv.1; omega) (HGen.out.2.2.2.2.2 rfl).2 (fun i hi => (val_rate hv i hi).1) (by omega) (10 * m).toNat
    rw [show (((10 * m).toNat : Nat) : Int) = 10 * m by omega] at this
    exact this
  have x4 : mgL l (10 * n) l.length ≤ mgL l (10 * n + 10 * m) l.length := by
    have hv := HV.out
    exact marg_mono (F := fst2 l) (R := snd2 l) (m := l.length) (HGen.out.2.2.2.2.2 rfl).2 (fun i hi => (val_rate hv i hi).1) (by omega) l.length (Nat.le_refl _)
  change 0 ≤ exL l (10 * n) ∧ exL l (10 * n) ≤ _ at x1
  change 0 ≤ exL l (10 * m) ∧ exL l (10 * m) ≤ _ at x2
  generalize exL l (10 * n) = a at *
  generalize exL l (10 * m) = b at *
  generalize exL l (10 * n + 10 * m) = cc at *
  generalize mgL l (10 * n) l.length = r at *
  generalize mgL l (10 * n + 10 * m) l.length = s at *
  have t1 : decide (a + b ≤ cc) = true := by simpa using x3
  have t2 : decide (r ≤ s) = true := by simpa using x4
  go_wp2_with fail
  refine (awake_any _).mono ?_
  rintro e w10 ⟨rfl, hb⟩
  have HDr := Lib.hid (HDr.out.calc_ hb)
  clear hb
  go_wp2
  go_ret
  exact ⟨rfl, HDr.out.below⟩
end Go.Proofs.Ytflbndcdnenkdaa
