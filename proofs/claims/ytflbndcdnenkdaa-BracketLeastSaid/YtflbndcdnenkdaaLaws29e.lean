/-
  The walk of the law BracketLeast.
-/
import Derived.Test.YtflbndcdnenkdaaLaws29
namespace Go.Proofs.Ytflbndcdnenkdaa
open Go.RowKit
set_option linter.unusedVariables false
set_option linter.unusedSimpArgs false

set_option maxRecDepth 100000 in
set_option maxHeartbeats 3200000 in
theorem bracketLeast_walk (A0 : Option Addr) (c0 : Nat) (l0 : List Int) (raw : Int) (w : World) (hr0 : RdI w w.heap.size A0 l0) (hl0 : l0.length ≤ 9223372036854775807) (hb0 : ∀ i, i < l0.length → InR (at1 l0 i)) (hraw : InR raw) :
    Calls Try.prog 9 #[.slice A0 l0.length c0, .int .i64 raw] w (RetB true w) := by
  go_enter Try.func9, Try.ntmps9
  go_wp2_with fail
  refine (law_start false (P := fun _ _ _ => True) A0 c0 l0 w hr0 hl0).mono ?_
  rintro e w1 ⟨rfl, hbr⟩
  have HBR := Lib.hid hbr
  clear hbr hr0 hb0 
  generalize hg : w.heap.size = g at *
  have HG := Lib.hid hg
  clear hg
  go_wp2_with fail
  refine HBR.out.mono ?_
  rintro e w2 ⟨A, c, l, rfl, hgen, _, _, hdr⟩
  have hl4 := hgen.2.1
  have hl1 := hgen.1
  have HV := Lib.hid (gen_val hgen)
  have HGen := Lib.hid hgen
  have HDr := Lib.hid hdr
  clear hgen hdr HBR
  go_wp2_with fail
  refine (income_any A c _ g l 20 _ HDr.out.rd (Nat.le_refl _) HDr.out.ne false HGen.out HDr.out.deck (by omega)).mono ?_
  rintro e w3 ⟨v, rfl, hv, ho, hD⟩
  have HDr := Lib.hid (HDr.out.draw ho hD)
  clear ho hD
  obtain ⟨n, hn, hn0, hn1⟩ : ∃ n : Int, (if 999999999999 < v then (999999999999 : Int) else v) = n ∧ 0 ≤ n ∧ n ≤ 999999999999 := ⟨_, rfl, by split <;> omega, by split <;> omega⟩
  go_wp2_with fail
  clear hn
  refine (exact_ok c HDr.out HV.out n (by omega) (by omega)).mono ?_
  rintro e w4 ⟨rfl, hb⟩
  have HDr := Lib.hid (HDr.out.calc_ hb)
  clear hb
  have hxb := exL_bd (n := n) HV.out (by omega) (by omega)
  have HRW := Lib.hid hraw
  clear hraw
  generalize exL l n = x at *
  obtain ⟨mx, hmx, hm0, hm1⟩ : ∃ mx : Int, (if x - 1 < 0 then (0 : Int) else x - 1) = mx ∧ 0 ≤ mx ∧ mx ≤ x := ⟨_, rfl, by split <;> omega, by split <;> omega⟩
  go_wp2
  have HT0 := Lib.hid (rdI_new w4 [x, x + 1, mx, raw] 3)
  have HDr0 : Hid (Dr w g (20 + 6) A l (w4.alloc (.cells #[.int .i64 x, .int .i64 (x + 1), .int .i64 mx, .int .i64 raw] 3))) := Lib.hid (HDr.out.calc_ ((Below.refl _ _).alloc (Nat.le_refl _) _))
  have HTB : Hid (∀ k, k < 4 → at1 [x, x + 1, mx, raw] k ≤ 9223372036854775807) := Lib.hid (by
    intro k hk
    have := HRW.out.2
    rcases (show k = 0 ∨ k = 1 ∨ k = 2 ∨ k = 3 by omega) with rfl | rfl | rfl | rfl <;> simp [at1] <;> omega)
  go_loopw [10] (fun i wr => ∃ k : Nat, k ≤ 4 ∧ i = .int .i64 k ∧ Dr w g (20 + 6) A l wr ∧ RdI wr (w4.heap.size + 1) (some ⟨w4.heap.size, 0, none⟩) [x, x + 1, mx, raw] ∧ w4.heap.size + 1 ≤ wr.heap.size) (fun i _ => 4 - (intOf i).toNat)
  case atStart => exact ⟨0, by omega, rfl, HDr0.out, HT0.out, by simp⟩
  case round =>
    obtain ⟨k, hk, rfl, hdr, htr, hsr⟩ := hrel
    have HDr := Lib.hid hdr
    have HTr := Lib.hid htr
    clear hdr htr HDr0 HT0
    by_cases hlt : k < 4
    · obtain ⟨tx, htx⟩ : ∃ tx, at1 [x, x + 1, mx, raw] k = tx := ⟨_, rfl⟩
      have htb : tx ≤ 9223372036854775807 := by rw [← htx]; exact HTB.out k hlt
      have HC : Hid (∀ W, RdI W (w4.heap.size + 1) (some ⟨w4.heap.size, 0, none⟩) [x, x + 1, mx, raw] → W.cell? ⟨w4.heap.size, k, none⟩ = some (.int .i64 tx)) := Lib.hid (by
        intro W hW
        obtain ⟨b, off, e, _, hc⟩ := hW.at_ (i := k) (by simpa using hlt)
        injection e with e
        injection e with e1 e2
        subst e1 e2
        rw [Nat.zero_add, htx] at hc
        exact hc)
      clear htx
      have f1 := HC.out _ HTr.out
      go_wp2_with fail
      refine (least_any A c _ l _ HDr.out.rd (Nat.le_refl _) (by omega) tx htb).mono ?_
      rintro e wa ⟨lv, ok, rfl, hb, hv1, _⟩
      have hL := hv1 HV.out
      have HDr := Lib.hid (HDr.out.calc_ hb)
      have hsz := hb.size
      have HTr := Lib.hid (HTr.out.below (hb.mono hsr))
      have f2 := HC.out _ HTr.out
      clear hb hv1 f1
      go_wp2_with fail
      refine (exact_ok c HDr.out HV.out 1000000000000 (by omega) (by omega)).mono ?_
      rintro e wb ⟨rfl, hb⟩
      have HDr := Lib.hid (HDr.out.calc_ hb)
      have hsz2 := hb.size
      have HTr := Lib.hid (HTr.out.below (hb.mono (by omega)))
      have f3 := HC.out _ HTr.out
      clear hb f2
      rcases hL with ⟨rfl, rfl, hlt1⟩ | ⟨rfl, l0', l1', l2', l3'⟩
      · have d1 : decide (tx ≤ exL l 1000000000000) = false := by simp; omega
        go_wp2
        go_roundw
        case rel => exact ⟨k + 1, by omega, by go_num, HDr.out, HTr.out, by omega⟩
        case measure => simp [intOf]; omega
      · have d1 : decide (tx ≤ exL l 1000000000000) = true := by
          have := exL_mono HV.out l0' l1'
          simp; omega
        have d2 : decide (exL l lv < tx) = false := by simp; omega
        go_wp2_with fail
        refine (exact_ok c HDr.out HV.out lv l0' l1').mono ?_
        rintro e wc ⟨rfl, hb⟩
        have HDr := Lib.hid (HDr.out.calc_ hb)
        have hsz3 := hb.size
        have HTr := Lib.hid (HTr.out.below (hb.mono (by omega)))
        have f4 := HC.out _ HTr.out
        clear hb f3
        by_cases hp : 0 < lv
        · have d3 : decide (tx ≤ exL l (lv - 1)) = false := by have := l3' hp; simp; omega
          clear l3'
          go_wp2_with fail
          refine (exact_ok c HDr.out HV.out (lv - 1) (by omega) (by omega)).mono ?_
          rintro e wd ⟨rfl, hb⟩
          have HDr := Lib.hid (HDr.out.calc_ hb)
          have hsz4 := hb.size
          have HTr := Lib.hid (HTr.out.below (hb.mono (by omega)))
          have f5 := HC.out _ HTr.out
          clear hb f4
          go_wp2
          go_roundw
          case rel => exact ⟨k + 1, by omega, by go_num, HDr.out, HTr.out, by omega⟩
          case measure => simp [intOf]; omega
        · clear l3'
          go_wp2
          go_roundw
          case rel => exact ⟨k + 1, by omega, by go_num, HDr.out, HTr.out, by omega⟩
          case measure => simp [intOf]; omega
    · go_wp2_with fail
      refine (awake_any _).mono ?_
      rintro e we ⟨rfl, hb⟩
      have HDr := Lib.hid (HDr.out.calc_ hb)
      clear hb
      go_wp2
      go_ret
      exact ⟨rfl, HDr.out.below⟩

end Go.Proofs.Ytflbndcdnenkdaa
