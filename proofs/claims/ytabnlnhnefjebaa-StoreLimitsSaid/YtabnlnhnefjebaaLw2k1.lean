/-
  Chapter 41: the walk of StoreLimits, one of five cases of the size. The memory is that of the given program; no conditions but the case.
-/
import Derived.Test.YtabnlnhnefjebaaLw2
namespace Go.Proofs.Ytabnlnhnefjebaa
open Go.RowKit
set_option linter.unusedVariables false
set_option linter.unusedSimpArgs false
set_option maxRecDepth 100000 in
set_option maxHeartbeats 6400000 in
theorem storeLimits_1 (size spare : Int) (w : World) (hs0 : -9223372036854775808 ≤ size) (hs1 : size ≤ 9223372036854775807) (hp0 : -9223372036854775808 ≤ spare) (hp1 : spare ≤ 9223372036854775807) (hk : size % 5 = 1) :
    Calls Try.prog 4 #[.int .i64 size, .int .i64 spare] w (RetB true w) := by
  have HM1 : Hid (Calls Try.prog 11 #[.int .i64 size, .int .i64 5] w fun e w' => e = .returned (.int .i64 1) ∧ w = w') := Lib.hid (by rw [← hk]; exact mod_any size 5 w hs0 hs1 (by decide) (by decide))
  obtain ⟨k3, Hk3⟩ : ∃ k3 : Nat, Hid ((k3 : Int) = spare % 3) := ⟨(spare % 3).toNat, Lib.hid (by omega)⟩
  have hk3 : k3 < 3 := by have := Hk3.out; omega
  have HM2 : Hid (∀ w, Calls Try.prog 11 #[.int .i64 spare, .int .i64 3] w fun e w' => e = .returned (.int .i64 k3) ∧ w = w') := Lib.hid (fun w => by rw [Hk3.out]; exact mod_any spare 3 w hp0 hp1 (by decide) (by decide))
  obtain ⟨z, HZ⟩ : ∃ z, Hid (z = zeroN 1) := ⟨_, Lib.hid rfl⟩
  have HzL : Hid (1 = z.length) := Lib.hid (by rw [HZ.out, zeroN_len])
  have HZB : Hid (byteOk z) := Lib.hid (by rw [HZ.out]; exact zeroN_ok _)
  have HAE : Hid (appE [] z.length = 0) := Lib.hid (by rw [← HzL.out]; rfl)
  have HV : Hid ((1 : Int) = ((1 : Nat) : Int)) := Lib.hid rfl
  have HVb : Hid (1 ≤ 100000000) := Lib.hid (by decide)
  clear hs0 hs1 hk
  go_enter Try.func4, Try.ntmps4
  go_upto_region 6 with (first
    | (go_at_call 11; refine (HM1.out).mono ?_; rintro e w' ⟨rfl, rfl⟩)
    | (go_at_call 18; refine (new_any _).mono ?_; rintro e w1 ⟨rfl, hw1⟩; have Hw1 := Lib.hid hw1; clear hw1))
  obtain ⟨p7, Hp7⟩ : ∃ p7, Hid (p7 = w.heap.size + 1) := ⟨_, Lib.hid rfl⟩
  rw [← Hp7.out]
  have x6 : w1.cell? ⟨w.heap.size, 1, none⟩ = some (.int .i64 1) := by
    rw [Hw1.out]
    have := ((Blk.new w 3 #[.int .i64 0, .int .i64 1, .int .i64 4095, .int .i64 4096, .int .i64 4097]).alloc (.cells #[.slice none 0 0, .int .i64 0] 59)).cell 1
    rw [this]; rfl
  have HF1 : Hid (FSt w w1 p7 none [] 0) := Lib.hid (by
    rw [Hw1.out, Hp7.out]
    have := FSt.new w (w.alloc (.cells #[.int .i64 0, .int .i64 1, .int .i64 4095, .int .i64 4096, .int .i64 4097] 3)) ((Below.refl _ _).alloc (Nat.le_refl _) _)
    simpa using this)
  obtain ⟨B7, HB7⟩ : ∃ B7, Hid (appB [] z = B7) := ⟨_, Lib.hid rfl⟩
  go_upto_region 12 with (first
    | (refine wpList_make23 rfl (.tmp 27) rfl 1 _ rfl HV HVb ?_; intro g28 w2 Hg28 Hb28 Hbel28)
    | (go_at_call 19; refine (append_e HzL HAE HB7 ((HF1.out).below Hbel28.out).st (rd_z HZ Hb28) (Nat.le_refl _) (by decide) HZB.out (ap_of ((HF1.out).below Hbel28.out).st Hb28.out (by decide) (by decide))).mono ?_; rintro e w3 ⟨rfl, own3, hs3, ho3, hc3⟩; have Hs3 := Lib.hid hs3; have Ho3 := Lib.hid ho3; have Hc3 := Lib.hid hc3; clear hs3 ho3 hc3))
  have Hbel3 := Lib.hid (((HF1.out).below Hbel28.out).chg Hc3.out)
  clear Hs3 Ho3 Hc3 HF1 Hb28 Hbel28 x6 Hw1 HAE HB7
  have H96 : Hid ((4096 : Int) = ((4096 : Nat) : Int)) := Lib.hid rfl
  have H96b : Hid (4096 ≤ 100000000) := Lib.hid (by decide)
  obtain ⟨y, HY⟩ : ∃ y, Hid (y = zeroN 4096) := ⟨_, Lib.hid rfl⟩
  have HyL : Hid (4096 = y.length) := Lib.hid (by rw [HY.out, zeroN_len])
  have HYB : Hid (byteOk y) := Lib.hid (by rw [HY.out]; exact zeroN_ok _)
  go_upto_region 14 with (first
    | (go_at_call 18; refine (new_any _).mono ?_; rintro e w4 ⟨rfl, hw4⟩; have Hw4 := Lib.hid hw4; clear hw4)
    | (refine wpList_make23 rfl (.const (.int .i64 4096)) rfl 4096 _ rfl H96 H96b ?_; intro g11 w5 Hg11 Hb11 Hbel11))
  obtain ⟨p10, Hp10⟩ : ∃ p10, Hid (p10 = w3.heap.size) := ⟨_, Lib.hid rfl⟩
  rw [← Hp10.out]
  have HF5 : Hid (FSt w w5 p10 none [] 0) := Lib.hid (by
    have h4 : FSt w w4 p10 none [] 0 := by rw [Hw4.out, Hp10.out]; exact FSt.new w w3 Hbel3.out
    exact h4.below Hbel11.out)
  clear Hw4 Hbel3 Hbel11 Hp10 Hg11 Hp7
  go_wp2
  go_loopw [12] (fun v wr => ∃ (j : Nat) (own : Option Nat) (B : List (List Int)), v = .int .i64 ((158 * j : Nat) : Int) ∧ j ≤ 103 ∧ B.length = 158 * j ∧ FSt w wr p10 own B 0 ∧ Blk wr g11 5 (u8s (zeroN 4096)).toArray) (fun v _ => 16384 - (intOf v).toNat)
  case atStart => exact ⟨0, none, [], rfl, by omega, rfl, HF5.out, Hb11.out⟩
  case round =>
    obtain ⟨j, own, B, rfl, hj, hBl, hF, hblk⟩ := hrel
    have HF := Lib.hid hF
    have HBL := Lib.hid hBl
    have HBK := Lib.hid hblk
    clear hF hBl hblk HF5 Hb11
    have HN : Hid (∀ w, Calls Try.prog 20 #[.slice (some ⟨g11, 0, none⟩) 4096 4096] w fun e w' => e = .returned (.int .i64 158) ∧ w = w') := Lib.hid (fun w => need_any _ 4096 4096 w (by decide))
    by_cases hlt : j < 103
    · have ht : ((158 * j : Nat) : Int) + 158 ≤ 16384 := by omega
      have ht' : (158 : Int) * (j : Int) + 158 ≤ 16384 := by omega
      have HAE : Hid (appE B y.length = 0) := Lib.hid (by rw [← HyL.out]; exact appE_ok B 4096 (by omega) (by omega) (by rw [HBL.out]; omega))
      have HAB : Hid (appB B y = B ++ brec B.length y) := Lib.hid (appB_ok B y HAE.out)
      have HBL2 : Hid ((B ++ brec B.length y).length = 158 * (j + 1)) := Lib.hid (by
        have e : need y = 158 := by unfold need; rw [← HyL.out]
        rw [List.length_append, brec_len, HBL.out, e]; omega)
      go_wp2_with (first
        | (go_at_call 20; refine (HN.out _).mono ?_; rintro e w' ⟨rfl, rfl⟩)
        | (go_at_call 19; refine (append_e HyL HAE HAB (HF.out).st (rd_z HY HBK) (Nat.le_refl _) (by decide) HYB.out (ap_of (HF.out).st (HBK.out) (by decide) (by decide))).mono ?_; rintro e w6 ⟨rfl, own6, hs6, ho6, hc6⟩; have Hs6 := Lib.hid hs6; have Ho6 := Lib.hid ho6; have Hc6 := Lib.hid hc6; clear hs6 ho6 hc6))
      have HF6 := Lib.hid ((HF.out).app Hs6.out Ho6.out Hc6.out)
      have HBK6 : Hid (Blk w6 g11 5 (u8s (zeroN 4096)).toArray) := Lib.hid (blk_chg (HF.out).st Hc6.out HBK.out (by decide) (by decide))
      go_roundw
      case rel => exact ⟨j + 1, own6, _, by congr 1, by omega, HBL2.out, HF6.out, HBK6.out⟩
      case measure => simp [intOf]; omega
    · obtain rfl : j = 103 := by omega
      go_upto_region 19 with (go_at_call 20; refine (HN.out _).mono ?_; rintro e w' ⟨rfl, rfl⟩)
      rcases (show k3 = 0 ∨ k3 = 1 ∨ k3 = 2 by omega) with rfl | rfl | rfl
      · obtain ⟨x, HXz⟩ : ∃ x, Hid (x = zeroN 2859) := ⟨_, Lib.hid rfl⟩
        have HxL : Hid (2859 = x.length) := Lib.hid (by rw [HXz.out, zeroN_len])
        have HXB : Hid (byteOk x) := Lib.hid (by rw [HXz.out]; exact zeroN_ok _)
        have HAE : Hid (appE B x.length = 0) := Lib.hid (by rw [← HxL.out]; exact appE_ok B 2859 (by omega) (by omega) (by rw [HBL.out]; omega))
        obtain ⟨B9, HB9⟩ : ∃ B9, Hid (appB B x = B9) := ⟨_, Lib.hid rfl⟩
        have HVx : Hid ((2859 : Int) = ((2859 : Nat) : Int)) := Lib.hid rfl
        have HVxb : Hid (2859 ≤ 100000000) := Lib.hid (by decide)
        obtain ⟨n9, Hn9⟩ : ∃ n9, Hid (B9.length = n9) := ⟨_, Lib.hid rfl⟩
        go_upto_region 25 with (first
          | (go_at_call 11; refine (HM2.out _).mono ?_; rintro e w' ⟨rfl, rfl⟩)
          | (refine wpList_make23 rfl (.tmp 64) rfl 2859 _ rfl HVx HVxb ?_; intro g65 w7 Hg65 Hb65 Hbel65)
          | (go_at_call 19; refine (append_e HxL HAE HB9 ((HF.out).below Hbel65.out).st (rd_z HXz Hb65) (Nat.le_refl _) (by decide) HXB.out (ap_of ((HF.out).below Hbel65.out).st (Hb65.out) (by decide) (by decide))).mono ?_; rintro e w8 ⟨rfl, own8, hs8, ho8, hc8⟩; have Hs8 := Lib.hid hs8; have Ho8 := Lib.hid ho8; have Hc8 := Lib.hid hc8; clear hs8 ho8 hc8))
        have HF8 := Lib.hid (((HF.out).below Hbel65.out).app Hs8.out Ho8.out Hc8.out)
        have hn9 : (n9 : Int) ≤ 16384 := by have := (Hs8.out).len.1; rw [Hn9.out] at this; omega
        clear Hb65 Hs8 Ho8 Hc8 Hbel65 HF HBK
        go_wp2_with (first
          | (go_at_call 15; refine (blocks_le (HF8.out).st Hn9).mono ?_; rintro e w9 ⟨rfl, hb9⟩; have Hb9 := Lib.hid hb9; clear hb9)
          | (go_at_call 17; refine (awake_any _).mono ?_; rintro e w10 ⟨rfl, hb10⟩; have Hb10 := Lib.hid hb10; clear hb10))
        go_ret
        exact ⟨rfl, bel_more (bel_more (HF8.out).bel Hb9) Hb10⟩
      · obtain ⟨x, HXz⟩ : ∃ x, Hid (x = zeroN 2860) := ⟨_, Lib.hid rfl⟩
        have HxL : Hid (2860 = x.length) := Lib.hid (by rw [HXz.out, zeroN_len])
        have HXB : Hid (byteOk x) := Lib.hid (by rw [HXz.out]; exact zeroN_ok _)
        have HAE : Hid (appE B x.length = 0) := Lib.hid (by rw [← HxL.out]; exact appE_ok B 2860 (by omega) (by omega) (by rw [HBL.out]; omega))
        obtain ⟨B9, HB9⟩ : ∃ B9, Hid (appB B x = B9) := ⟨_, Lib.hid rfl⟩
        have HVx : Hid ((2860 : Int) = ((2860 : Nat) : Int)) := Lib.hid rfl
        have HVxb : Hid (2860 ≤ 100000000) := Lib.hid (by decide)
        obtain ⟨n9, Hn9⟩ : ∃ n9, Hid (B9.length = n9) := ⟨_, Lib.hid rfl⟩
        go_upto_region 25 with (first
          | (go_at_call 11; refine (HM2.out _).mono ?_; rintro e w' ⟨rfl, rfl⟩)
          | (refine wpList_make23 rfl (.tmp 64) rfl 2860 _ rfl HVx HVxb ?_; intro g65 w7 Hg65 Hb65 Hbel65)
          | (go_at_call 19; refine (append_e HxL HAE HB9 ((HF.out).below Hbel65.out).st (rd_z HXz Hb65) (Nat.le_refl _) (by decide) HXB.out (ap_of ((HF.out).below Hbel65.out).st (Hb65.out) (by decide) (by decide))).mono ?_; rintro e w8 ⟨rfl, own8, hs8, ho8, hc8⟩; have Hs8 := Lib.hid hs8; have Ho8 := Lib.hid ho8; have Hc8 := Lib.hid hc8; clear hs8 ho8 hc8))
        have HF8 := Lib.hid (((HF.out).below Hbel65.out).app Hs8.out Ho8.out Hc8.out)
        have hn9 : (n9 : Int) ≤ 16384 := by have := (Hs8.out).len.1; rw [Hn9.out] at this; omega
        clear Hb65 Hs8 Ho8 Hc8 Hbel65 HF HBK
        go_wp2_with (first
          | (go_at_call 15; refine (blocks_le (HF8.out).st Hn9).mono ?_; rintro e w9 ⟨rfl, hb9⟩; have Hb9 := Lib.hid hb9; clear hb9)
          | (go_at_call 17; refine (awake_any _).mono ?_; rintro e w10 ⟨rfl, hb10⟩; have Hb10 := Lib.hid hb10; clear hb10))
        go_ret
        exact ⟨rfl, bel_more (bel_more (HF8.out).bel Hb9) Hb10⟩
      · obtain ⟨x, HXz⟩ : ∃ x, Hid (x = zeroN 2861) := ⟨_, Lib.hid rfl⟩
        have HxL : Hid (2861 = x.length) := Lib.hid (by rw [HXz.out, zeroN_len])
        have HXB : Hid (byteOk x) := Lib.hid (by rw [HXz.out]; exact zeroN_ok _)
        have HAE : Hid (appE B x.length = 18) := Lib.hid (by rw [← HxL.out]; exact appE_full B 2861 (by omega) (by omega) (by rw [HBL.out]; omega))
        obtain ⟨B9, HB9⟩ : ∃ B9, Hid (appB B x = B9) := ⟨_, Lib.hid rfl⟩
        have HVx : Hid ((2861 : Int) = ((2861 : Nat) : Int)) := Lib.hid rfl
        have HVxb : Hid (2861 ≤ 100000000) := Lib.hid (by decide)
        obtain ⟨n9, Hn9⟩ : ∃ n9, Hid (B9.length = n9) := ⟨_, Lib.hid rfl⟩
        go_upto_region 25 with (first
          | (go_at_call 11; refine (HM2.out _).mono ?_; rintro e w' ⟨rfl, rfl⟩)
          | (refine wpList_make23 rfl (.tmp 64) rfl 2861 _ rfl HVx HVxb ?_; intro g65 w7 Hg65 Hb65 Hbel65)
          | (go_at_call 19; refine (append_e HxL HAE HB9 ((HF.out).below Hbel65.out).st (rd_z HXz Hb65) (Nat.le_refl _) (by decide) HXB.out (ap_of ((HF.out).below Hbel65.out).st (Hb65.out) (by decide) (by decide))).mono ?_; rintro e w8 ⟨rfl, own8, hs8, ho8, hc8⟩; have Hs8 := Lib.hid hs8; have Ho8 := Lib.hid ho8; have Hc8 := Lib.hid hc8; clear hs8 ho8 hc8))
        have HF8 := Lib.hid (((HF.out).below Hbel65.out).app Hs8.out Ho8.out Hc8.out)
        have hn9 : (n9 : Int) ≤ 16384 := by have := (Hs8.out).len.1; rw [Hn9.out] at this; omega
        clear Hb65 Hs8 Ho8 Hc8 Hbel65 HF HBK
        go_wp2_with (first
          | (go_at_call 15; refine (blocks_le (HF8.out).st Hn9).mono ?_; rintro e w9 ⟨rfl, hb9⟩; have Hb9 := Lib.hid hb9; clear hb9)
          | (go_at_call 17; refine (awake_any _).mono ?_; rintro e w10 ⟨rfl, hb10⟩; have Hb10 := Lib.hid hb10; clear hb10))
        go_ret
        exact ⟨rfl, bel_more (bel_more (HF8.out).bel Hb9) Hb10⟩
end Go.Proofs.Ytabnlnhnefjebaa
