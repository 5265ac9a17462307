/-
  The walk of the law BracketTaxes.
-/
import Derived.Test.YtflbndcdnenkdaaLaws29
import Derived.Test.YtflbndcdnenkdaaTax29
namespace Go.Proofs.Ytflbndcdnenkdaa
open Go.RowKit
set_option linter.unusedVariables false
set_option linter.unusedSimpArgs false

theorem RdI.far {w w' : World} {B g : Nat} {A : Option Addr} {l : List Int} (h : RdI w B A l) (ho : Only g w w') (hne : ∀ b off, A = some ⟨b, off, none⟩ → b ≠ g) : RdI w' B A l := Rd.far h ho hne
theorem rd_at {W : World} {B b k : Nat} {l : List Int} (h : RdI W B (some ⟨b, 0, none⟩) l) (hk : k < l.length) : W.cell? ⟨b, k, none⟩ = some (.int .i64 (at1 l k)) := by
  obtain ⟨b', off', e, _, hc⟩ := h.at_ hk
  injection e with e
  injection e with e1 e2
  subst e1 e2
  simpa using hc
theorem pick_at (g : Nat) (N : Int) (l : List Int) (w : World) (t : TypeId) (c gs : Nat) (hgs : gs = w.heap.size) (hD : Deck w g N) (hN : N ≤ 1000000) (h0 : 0 < l.length) (hl : l.length ≤ 1000000) :
    Calls Try.prog 30 #[.pointer (some ⟨g, 0, none⟩), .slice (some ⟨gs, 0, none⟩) l.length c] (w.alloc (.cells (l.map (Value.int .i64)).toArray t)) (DeckInt (fun v => v ∈ l) g (N + 1) w) := by
  subst hgs
  exact pick_new g N l w t c hD hN h0 hl
/-- the drawn schedule, and the three lists of incomes, units and modes -/
structure Tr (w : World) (g : Nat) (N : Int) (A : Option Addr) (l : List (Int × Int)) (b1 b2 b3 : Nat) (li lu lm : List Int) (W : World) : Prop where
  d : Dr w g N A l W
  i : RdI W (b1 + 1) (some ⟨b1, 0, none⟩) li
  u : RdI W (b2 + 1) (some ⟨b2, 0, none⟩) lu
  m : RdI W (b3 + 1) (some ⟨b3, 0, none⟩) lm
  s1 : b1 + 1 ≤ W.heap.size
  s2 : b2 + 1 ≤ W.heap.size
  s3 : b3 + 1 ≤ W.heap.size
theorem Tr.calc_ {w W W' : World} {g b1 b2 b3 : Nat} {N : Int} {A : Option Addr} {l : List (Int × Int)} {li lu lm : List Int} (h : Tr w g N A l b1 b2 b3 li lu lm W) (hb : Below W.heap.size W W') : Tr w g N A l b1 b2 b3 li lu lm W' :=
  ⟨h.d.calc_ hb, h.i.below (hb.mono h.s1), h.u.below (hb.mono h.s2), h.m.below (hb.mono h.s3), Nat.le_trans h.s1 hb.size, Nat.le_trans h.s2 hb.size, Nat.le_trans h.s3 hb.size⟩
theorem Tr.drew {w W : World} {g b1 b2 b3 : Nat} {N : Int} {A : Option Addr} {l : List (Int × Int)} {li lu lm : List Int} (h : Tr w g N A l b1 b2 b3 li lu lm W) : Tr w g N A l b1 b2 b3 li lu lm W.drew :=
  h.calc_ (Below.refl _ _).drew

set_option maxRecDepth 100000 in
set_option maxHeartbeats 3200000 in
theorem bracketTaxes_walk (A0 : Option Addr) (c0 : Nat) (l0 : List Int) (n unit mode : Int) (w : World) (hr0 : RdI w w.heap.size A0 l0) (hl0 : l0.length ≤ 9223372036854775807) (hb0 : ∀ i, i < l0.length → InR (at1 l0 i)) (h1 : InR n) (h2 : InR unit) (h3 : InR mode) :
    Calls Try.prog 11 #[.slice A0 l0.length c0, .int .i64 n, .int .i64 unit, .int .i64 mode] w (RetB true w) := by
  go_enter Try.func11, Try.ntmps11
  go_wp2_with fail
  refine (law_start false (P := fun _ _ _ => True) A0 c0 l0 w hr0 hl0).mono ?_
  rintro e w1 ⟨rfl, hbr⟩
  have HBR := Lib.hid hbr
  clear hbr hr0 hb0 h1 h2 h3
  generalize hg : w.heap.size = g at *
  have HG := Lib.hid hg
  clear hg
  go_wp2_with fail
  refine HBR.out.mono ?_
  rintro e w2 ⟨A, c, l, rfl, hgen, _, _, hdr⟩
  have hl4 := hgen.2.1
  have hl1 := hgen.1
  have HV := Lib.hid (gen_val hgen)
  have HGen := Lib.hid hgen
  have HDr := Lib.hid hdr
  clear hgen hdr HBR
  go_wp2_with fail
  refine (income_any A c _ g l 20 _ HDr.out.rd (Nat.le_refl _) HDr.out.ne false HGen.out HDr.out.deck (by omega)).mono ?_
  rintro e w3 ⟨i0, rfl, hi0, ho, hD⟩
  have HDr := Lib.hid (HDr.out.draw ho hD)
  clear ho hD
  have hg3 : g < w3.heap.size := HDr.out.deck.lt
  have HDr := Lib.hid (HDr.out.calc_ ((Below.refl w3.heap.size w3).alloc (Nat.le_refl _) (.cells #[.int .i64 i0, .int .i64 n] 3)))
  have HI := Lib.hid (rdI_new w3 [i0, n] 3)
  go_wp2_with fail
  refine (pick_at g (20 + 6) [1, 100, 10, 1000000, 7] _ 3 5 _ (by simp) HDr.out.deck (by omega) (by decide) (by decide)).mono ?_
  rintro e w4 ⟨u0, rfl, hu, ho, hD⟩
  have HDr := Lib.hid (HDr.out.draw ho hD)
  have hs4 := ho.size
  have HI := Lib.hid (RdI.far HI.out ho (fun b off e => by injection e with e; injection e with e; omega))
  simp at hs4
  clear ho hD hu
  have HDr := Lib.hid (HDr.out.calc_ ((Below.refl w4.heap.size w4).alloc (Nat.le_refl _) (.cells #[.int .i64 u0, .int .i64 unit] 3)))
  have HU := Lib.hid (rdI_new w4 [u0, unit] 3)
  have HI := Lib.hid (HI.out.below ((Below.refl (w3.heap.size + 1) w4).alloc (by omega) (.cells #[.int .i64 u0, .int .i64 unit] 3)))
  go_wp2_with fail
  refine (mode_any g (20 + 6 + 1) _ HDr.out.deck (by omega)).mono ?_
  rintro e w5 ⟨m0, rfl, hm, ho, hD⟩
  have HDr := Lib.hid (HDr.out.draw ho hD)
  have hs5 := ho.size
  simp at hs5
  have HI := Lib.hid (RdI.far HI.out ho (fun b off e => by injection e with e; injection e with e; omega))
  have HU := Lib.hid (RdI.far HU.out ho (fun b off e => by injection e with e; injection e with e; omega))
  clear ho hD hm
  have HDr := Lib.hid (HDr.out.calc_ ((Below.refl w5.heap.size w5).alloc (Nat.le_refl _) (.cells #[.int .i64 m0, .int .i64 mode] 3)))
  have HM := Lib.hid (rdI_new w5 [m0, mode] 3)
  have HI := Lib.hid (HI.out.below ((Below.refl (w3.heap.size + 1) w5).alloc (by omega) (.cells #[.int .i64 m0, .int .i64 mode] 3)))
  have HU := Lib.hid (HU.out.below ((Below.refl (w4.heap.size + 1) w5).alloc (by omega) (.cells #[.int .i64 m0, .int .i64 mode] 3)))
  have HTr : Hid (Tr w g (20 + 6 + 1 + 1) A l w3.heap.size w4.heap.size w5.heap.size [i0, n] [u0, unit] [m0, mode] (w5.alloc (.cells #[.int .i64 m0, .int .i64 mode] 3))) := Lib.hid ⟨HDr.out, HI.out, HU.out, HM.out, by simp; omega, by simp; omega, by simp⟩
  clear HI HU HM
  generalize w3.heap.size = b1 at *
  generalize w4.heap.size = b2 at *
  go_wp2
  generalize hW : w5.alloc (.cells #[.int .i64 m0, .int .i64 mode] 3) = W6 at *
  generalize w5.heap.size = b3 at *
  clear hW hs4 hs5
  go_loopw [14] (fun i wr => ∃ k : Nat, k ≤ 2 ∧ i = .int .i64 k ∧ Tr w g (20 + 6 + 1 + 1) A l b1 b2 b3 [i0, n] [u0, unit] [m0, mode] wr) (fun i _ => 2 - (intOf i).toNat)
  case atStart => exact ⟨0, by omega, rfl, HTr.out⟩
  case round =>
    obtain ⟨k, hk, rfl, htr⟩ := hrel
    have HTr := Lib.hid htr
    clear htr
    by_cases hlt : k < 2
    · obtain ⟨x, hx⟩ : ∃ x, at1 [i0, n] k = x := ⟨_, rfl⟩
      obtain ⟨u, hu⟩ : ∃ x, at1 [u0, unit] k = x := ⟨_, rfl⟩
      obtain ⟨m, hm⟩ : ∃ x, at1 [m0, mode] k = x := ⟨_, rfl⟩
      have HC : Hid (∀ W, Tr w g (20 + 6 + 1 + 1) A l b1 b2 b3 [i0, n] [u0, unit] [m0, mode] W → W.cell? ⟨b1, k, none⟩ = some (.int .i64 x) ∧ W.cell? ⟨b2, k, none⟩ = some (.int .i64 u) ∧ W.cell? ⟨b3, k, none⟩ = some (.int .i64 m)) := Lib.hid (by
        intro W hW
        rw [← hx, ← hu, ← hm]
        exact ⟨rd_at hW.i (by simpa using hlt), rd_at hW.u (by simpa using hlt), rd_at hW.m (by simpa using hlt)⟩)
      clear hx hu hm
      have hll : l.length ≤ 9223372036854775807 := by omega
      obtain ⟨f1, _, _⟩ := HC.out _ HTr.out
      go_wp2_with fail
      refine (split_any A c _ l _ HTr.out.d.rd (Nat.le_refl _) hll x).mono ?_
      rintro e w11 ⟨A1, c1, rfl, hb, hr1⟩
      have HTr := Lib.hid (HTr.out.calc_ hb)
      have HR1 := Lib.hid hr1
      have hz1 := hb.size
      clear hr1
      clear hb f1
      obtain ⟨f1, f2, f3⟩ := HC.out _ HTr.out
      go_wp2_with fail
      refine (refSplit_any A c _ l _ HTr.out.d.rd (Nat.le_refl _) hll x).mono ?_
      rintro e w12 ⟨A2, c2, rfl, hb, hr2⟩
      have HTr := Lib.hid (HTr.out.calc_ hb)
      have HR2 := Lib.hid hr2
      have HR1 := Lib.hid (HR1.out.below hb)
      have hz2 := hb.size
      clear hr2
      clear hb f1
      obtain ⟨f1, f2, f3⟩ := HC.out _ HTr.out
      go_wp2_with fail
      refine (exact_any A c _ l _ HTr.out.d.rd (Nat.le_refl _) hll x).mono ?_
      rintro e w13 ⟨rfl, hb⟩
      have HTr := Lib.hid (HTr.out.calc_ hb)
      have HR1 := Lib.hid (HR1.out.below (hb.mono hz2))
      have HR2 := Lib.hid (HR2.out.below hb)
      have hz3 := hb.size
      clear hb f1
      obtain ⟨f1, f2, f3⟩ := HC.out _ HTr.out
      go_wp2_with fail
      refine (refExact_any A c _ l _ HTr.out.d.rd (Nat.le_refl _) hll x).mono ?_
      rintro e w14 ⟨rfl, hb⟩
      have HTr := Lib.hid (HTr.out.calc_ hb)
      have HR1 := Lib.hid (HR1.out.below (hb.mono (by omega)))
      have HR2 := Lib.hid (HR2.out.below (hb.mono hz3))
      have hz4 := hb.size
      clear hb f1
      obtain ⟨f1, f2, f3⟩ := HC.out _ HTr.out
      have hsl : (splitL l x).length ≤ 24 := by
        have := HV.out.2.1
        unfold splitL
        split
        · rw [parts_length]; omega
        · simp
      have q1 : (chk l x != chk l x) = false := by simp
      have q2 : (exactV l x != exactV l x) = false := by simp
      generalize splitL l x = SL at *
      go_wp2_with fail
      refine (ints_eq A1 A2 c1 c2 _ _ SL _ HR1.out HR2.out (by omega) (by omega)).mono ?_
      rintro e w15 ⟨rfl, hb⟩
      have HTr := Lib.hid (HTr.out.calc_ hb)
      clear hb f1
      obtain ⟨f1, f2, f3⟩ := HC.out _ HTr.out
      go_wp2_with fail
      refine (marginal_any A c _ l _ HTr.out.d.rd (Nat.le_refl _) hll x).mono ?_
      rintro e w16 ⟨rfl, hb⟩
      have HTr := Lib.hid (HTr.out.calc_ hb)
      clear hb f1
      obtain ⟨f1, f2, f3⟩ := HC.out _ HTr.out
      go_wp2_with fail
      refine (refMarginal_any A c _ l _ HTr.out.d.rd (Nat.le_refl _) hll x).mono ?_
      rintro e w17 ⟨rfl, hb⟩
      have HTr := Lib.hid (HTr.out.calc_ hb)
      clear hb f1
      obtain ⟨f1, f2, f3⟩ := HC.out _ HTr.out
      have HT1 : Hid (∀ (W : World), Tr w g (20 + 6 + 1 + 1) A l b1 b2 b3 [i0, n] [u0, unit] [m0, mode] W → Calls Try.prog 32 #[.slice A l.length c, .int .i64 x, .int .i64 u, .int .i64 m] W (RetII (taxV l x u m) (taxE l x u m) W)) := fun W hW => tax_any A c _ l W hW.d.rd (Nat.le_refl _) hll x u m
      have HT2 : Hid (∀ (W : World), Tr w g (20 + 6 + 1 + 1) A l b1 b2 b3 [i0, n] [u0, unit] [m0, mode] W → Calls Try.prog 36 #[.slice A l.length c, .int .i64 x, .int .i64 u, .int .i64 m] W (RetII (taxV l x u m) (taxE l x u m) W)) := fun W hW => refTax_any A c _ l W hW.d.rd (Nat.le_refl _) hll x u m
      have q3 : (margV l x != margV l x) = false := by simp
      have q4 : (taxE l x u m != taxE l x u m) = false := by simp
      have q5 : (taxV l x u m != taxV l x u m) = false := by simp
      generalize chk l x = CK at *
      generalize exactV l x = EX at *
      generalize margV l x = MG at *
      generalize taxE l x u m = TE at *
      generalize taxV l x u m = TV at *
      go_wp2_with fail
      go_region_held3 (fun W => W.cell? ⟨b1, k, none⟩ = some (.int .i64 x) ∧ W.cell? ⟨b2, k, none⟩ = some (.int .i64 u) ∧ W.cell? ⟨b3, k, none⟩ = some (.int .i64 m)) (first | go_keep | exact ⟨f1, f2, f3⟩ | exact ⟨g1, g2, g3⟩)
        (first | (go_at_call 32; refine (HT1.out _ ?_).mono ?_; exact HTr.out.drew; rintro e wt ⟨rfl, hb⟩; have HTr2 := Lib.hid (HTr.out.drew.calc_ hb); clear hb; obtain ⟨g1, g2, g3⟩ := HC.out _ HTr2.out))
      clear f1 f2 f3
      go_wp2_with fail
      go_region_held3 (fun W => W.cell? ⟨b1, k, none⟩ = some (.int .i64 x) ∧ W.cell? ⟨b2, k, none⟩ = some (.int .i64 u) ∧ W.cell? ⟨b3, k, none⟩ = some (.int .i64 m)) (first | go_keep | exact ⟨g1, g2, g3⟩ | exact ⟨j1, j2, j3⟩)
        (first | (go_at_call 36; refine (HT2.out _ ?_).mono ?_; exact HTr2.out.drew; rintro e wu ⟨rfl, hb⟩; have HTr3 := Lib.hid (HTr2.out.drew.calc_ hb); clear hb; obtain ⟨j1, j2, j3⟩ := HC.out _ HTr3.out))
      clear g1 g2 g3 j1 j2 j3
      go_wp2
      go_roundw
      case rel => exact ⟨k + 1, by omega, by go_num, HTr3.out⟩
      case measure => simp [intOf]; omega
    · go_wp2_with fail
      refine (awake_any _).mono ?_
      rintro e we ⟨rfl, hb⟩
      have HTr := Lib.hid (HTr.out.calc_ hb)
      clear hb
      go_wp2
      go_ret
      exact ⟨rfl, HTr.out.d.below⟩

end Go.Proofs.Ytflbndcdnenkdaa
