/-
  The walk of the law BracketRaw.
-/
import Derived.Test.YtflbndcdnenkdaaAwake29
import Derived.Test.YtflbndcdnenkdaaLeast29
import Derived.Test.YtflbndcdnenkdaaOpen
namespace Go.Proofs.Ytflbndcdnenkdaa
open Go.RowKit
set_option linter.unusedVariables false
set_option linter.unusedSimpArgs false

theorem dd_len : ∀ l : List (Int × Int), (dd l).length ≤ l.length
  | [] => by simp [dd]
  | [a] => by simp [dd]
  | a :: b :: t => by
    have := dd_len (b :: t)
    simp only [dd]
    split
    · simp at this ⊢; omega
    · simp at this ⊢; omega
theorem scaleL_len (l : List (Int × Int)) (num den : Int) : (scaleL l num den).length ≤ l.length := by
  unfold scaleL
  split
  · have := dd_len (sc l num den)
    rwa [sc_length] at this
  · simp

set_option maxHeartbeats 1600000 in
theorem bracketRaw_walk (A : Option Addr) (c : Nat) (l : List (Int × Int)) (n num den tax : Int) (w : World) (hr : RdP w w.heap.size A l) (hl : l.length ≤ 9223372036854775807) (hb : ∀ i, i < l.length → InR (fst2 l i) ∧ InR (snd2 l i))
    (h1 : InR n) (h2 : InR num) (h3 : InR den) (h4 : InR tax) :
    Calls Try.prog 8 #[.slice A l.length c, .int .i64 n, .int .i64 num, .int .i64 den, .int .i64 tax] w (RetB true w) := by
  clear hb h1 h2 h3
  have HR := Lib.hid hr
  have ht := h4.2
  clear hr h4
  by_cases h30 : 30 < l.length
  · have hd : decide (30 < (l.length : Int)) = true := by simp; omega
    go_enter Try.func8, Try.ntmps8
    go_wp2_with fail
    refine (awake_any _).mono ?_
    rintro e w1 ⟨rfl, hb1⟩
    have HB1 := Lib.hid hb1
    clear hb1
    go_wp2
    go_ret
    exact ⟨rfl, HB1.out⟩
  · have hd : decide (30 < (l.length : Int)) = false := by simp; omega
    go_enter Try.func8, Try.ntmps8
    go_wp2_with fail
    refine (exact_any A c _ l _ HR.out (Nat.le_refl _) hl n).mono ?_
    rintro e w1 ⟨rfl, hb1⟩
    have HB1 := Lib.hid hb1
    clear hb1
    go_wp2_with fail
    refine (refExact_any A c _ l _ (HR.out.below HB1.out) HB1.out.size hl n).mono ?_
    rintro e w2 ⟨rfl, hb2⟩
    have HB2 := Lib.hid (HB1.out.trans (hb2.mono HB1.out.size))
    clear hb2
    go_wp2_with fail
    refine (scale_any A c _ l _ (HR.out.below HB2.out) HB2.out.size hl num den).mono ?_
    rintro e w3 ⟨A3, c3, rfl, hb3, hr3⟩
    have HB3 := Lib.hid (HB2.out.trans (hb3.mono HB2.out.size))
    have HR3 := Lib.hid hr3
    clear hb3 hr3
    go_wp2_with fail
    refine (refScale_any A c _ l _ (HR.out.below HB3.out) HB3.out.size hl num den).mono ?_
    rintro e w4 ⟨A4, c4, rfl, hb4, hr4⟩
    have HB4 := Lib.hid (HB3.out.trans (hb4.mono HB3.out.size))
    have HR3 := Lib.hid (HR3.out.below hb4)
    have HR4 := Lib.hid hr4
    have hs4 := hb4.size
    clear hb4 hr4
    go_wp2_with fail
    refine (least_any A c _ l _ (HR.out.below HB4.out) HB4.out.size hl tax ht).mono ?_
    rintro e w5 ⟨v5, ok5, rfl, hb5, hv5, hn5⟩
    have HB5 := Lib.hid (HB4.out.trans (hb5.mono HB4.out.size))
    have HR3 := Lib.hid (HR3.out.below (hb5.mono hs4))
    have HR4 := Lib.hid (HR4.out.below hb5)
    have hs5 := hb5.size
    have HV5 := Lib.hid hv5
    have HN5 := Lib.hid hn5
    clear hb5 hv5 hn5
    go_wp2_with fail
    refine (refLeast_any A c _ l _ (HR.out.below HB5.out) HB5.out.size hl tax ht).mono ?_
    rintro e w6 ⟨v6, ok6, rfl, hb6, hv6, hn6⟩
    have HB6 := Lib.hid (HB5.out.trans (hb6.mono HB5.out.size))
    have HR3 := Lib.hid (HR3.out.below (hb6.mono (Nat.le_trans hs4 hs5)))
    have HR4 := Lib.hid (HR4.out.below (hb6.mono hs5))
    have hs6 := hb6.size
    obtain ⟨e1, e2⟩ : v5 = v6 ∧ ok5 = ok6 := by
      by_cases hV : Val l
      · exact IsLeast.unique hV (HV5.out hV) (hv6 hV)
      · have a := HN5.out hV
        have b := hn6 hV
        exact ⟨a.1.trans b.1.symm, a.2.trans b.2.symm⟩
    subst e1 e2
    clear hb6 hv6 hn6 HV5 HN5
    have hS := scaleL_len l num den
    generalize scaleL l num den = S at *
    generalize scaleE l num den = E at *
    generalize exactV l n = X at *
    generalize chk l n = K at *
    have t1 : (X == X) = true := by simp
    have t2 : (K == K) = true := by simp
    have t3 : (E == E) = true := by simp
    have t4 : (v5 == v5) = true := by simp
    have t5 : (ok5 == ok5) = true := by simp
    go_wp2_with fail
    refine (same_eq A3 A4 c3 c4 _ _ S _ HR3.out HR4.out (by omega) (by omega)).mono ?_
    rintro e w7 ⟨rfl, hb7⟩
    have HB7 := Lib.hid (HB6.out.trans (hb7.mono HB6.out.size))
    clear hb7
    go_wp2_with fail
    refine (awake_any _).mono ?_
    rintro e w8 ⟨rfl, hb8⟩
    have HB8 := Lib.hid (HB7.out.trans (hb8.mono HB7.out.size))
    clear hb8
    go_wp2
    go_ret
    exact ⟨rfl, HB8.out⟩
end Go.Proofs.Ytflbndcdnenkdaa
