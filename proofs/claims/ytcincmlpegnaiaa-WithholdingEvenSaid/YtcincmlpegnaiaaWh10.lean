/-
  Chapter 30: the walk of the law WithholdingEven.
-/
import Derived.Test.YtcincmlpegnaiaaWh9
import Derived.Test.YtcincmlpegnaiaaOpen
namespace Go.Proofs.Ytcincmlpegnaiaa
open Go.RowKit
set_option linter.unusedVariables false
set_option linter.unusedSimpArgs false

def rep (n : Int) (k : Nat) : List Int := List.replicate k n
theorem rep_len (n : Int) (k : Nat) : (rep n k).length = k := by simp [rep]
theorem rep_succ (n : Int) (k : Nat) : rep n (k + 1) = rep n k ++ [n] := by simp [rep, List.replicate_succ']
theorem rep_at (n : Int) (k i : Nat) (h : i < k) : at1 (rep n k) i = n := by simp [rep, at1, h]
theorem rep_tot (n : Int) (m : Nat) : ∀ k, k ≤ m → totTo (rep n m) k = n * k
  | 0, _ => by simp [totTo, sumTo]
  | k + 1, h => by
    rw [totTo_succ, rep_tot n m k (by omega), rep_at n m k (by omega), Int.natCast_add, Int.mul_add]
    simp
theorem even_due {N M R : Int} (hN : 0 ≤ N) (hN1 : N < 10000) (hM : 0 ≤ M) (hM1 : M < 1000) (hR : 0 ≤ R) (hR1 : R < 101) (k : Nat) (hk : k ≤ 12) :
    dAt (eT 3 (10000 * R) (1200 * M)) 12 (rep (100 * N) 12) k = (k : Int) * (max (N - M) 0 * R) := by
  unfold dAt
  by_cases h0 : k = 0
  · subst h0; simp
  · have hk0 : (0 : Int) ≤ (k : Int) := by omega
    have hk12 : (k : Int) ≤ 12 := by omega
    have e1 : 1200 * M * (k : Int) / 12 = 100 * M * k := by
      rw [show (1200 : Int) * M * k = 12 * (100 * M * k) by rw [show (1200 : Int) = 12 * 100 by rfl, Int.mul_assoc 12 100 M, Int.mul_assoc 12]]
      exact Int.mul_ediv_cancel_left _ (by omega)
    have e2 : max (100 * N * (k : Int) - 100 * M * k) 0 = 100 * ((k : Int) * max (N - M) 0) := by
      rw [show 100 * N * (k : Int) - 100 * M * k = 100 * ((k : Int) * (N - M)) by rw [Int.mul_assoc 100 N, Int.mul_assoc 100 M, ← Int.mul_sub, ← Int.sub_mul, Int.mul_comm (N - M)]]
      by_cases h : 0 ≤ N - M
      · have := Int.mul_nonneg hk0 h
        rw [show max (N - M) 0 = N - M by omega]
        omega
      · have : (k : Int) * (N - M) ≤ 0 := Int.mul_nonpos_of_nonneg_of_nonpos hk0 (by omega)
        rw [show max (N - M) 0 = 0 by omega]
        simp
        omega
    have hbd : (k : Int) * max (N - M) 0 ≤ 12 * 10000 := Int.le_trans (Int.mul_le_mul_of_nonneg_right hk12 (by omega)) (Int.mul_le_mul_of_nonneg_left (by omega) (by omega))
    rw [if_neg h0, rep_tot _ _ _ hk]
    rw [one_due (by omega) (by omega) (by rw [e1, e2]; omega), e1, e2]
    rw [show 10000 * R * (100 * ((k : Int) * max (N - M) 0)) = 1000000 * ((k : Int) * (max (N - M) 0 * R)) by
      rw [← Int.mul_assoc (k : Int), Int.mul_comm ((k : Int) * max (N - M) 0) R, ← Int.mul_assoc 1000000, Int.mul_assoc 10000 R, ← Int.mul_assoc R 100, Int.mul_comm R 100, ← Int.mul_assoc 10000, ← Int.mul_assoc 10000]
      rfl]
    exact Int.mul_ediv_cancel_left _ (by omega)
theorem even_list {N M R : Int} (hN : 0 ≤ N) (hN1 : N < 10000) (hM : 0 ≤ M) (hM1 : M < 1000) (hR : 0 ≤ R) (hR1 : R < 101) :
    yrE (eT 3 (10000 * R) (1200 * M)) 12 (rep (100 * N) 12) = 0 ∧ (yrL (eT 3 (10000 * R) (1200 * M)) 12 (rep (100 * N) 12)).length = 12 ∧
      ∀ i, i < 12 → at1 (yrL (eT 3 (10000 * R) (1200 * M)) 12 (rep (100 * N) 12)) i = max (N - M) 0 * R := by
  have hv : tvB (eT 3 (10000 * R) (1200 * M)) = true := eT_valid (.inr rfl) (by omega) (by omega) (by omega) (by omega)
  have he : yrE (eT 3 (10000 * R) (1200 * M)) 12 (rep (100 * N) 12) = 0 := yr_ok hv ⟨by omega, by omega, by rw [rep_len]; omega⟩ (fun i hi => by
    rw [rep_len] at hi
    rw [rep_at _ _ _ hi]
    exact amt_iff.2 ⟨by omega, by omega⟩)
  have hL : yrL (eT 3 (10000 * R) (1200 * M)) 12 (rep (100 * N) 12) = yrTo (eT 3 (10000 * R) (1200 * M)) 12 (rep (100 * N) 12) 12 := by
    unfold yrL; rw [if_pos he, rep_len]
  refine ⟨he, by rw [hL, yrTo_len], fun i hi => ?_⟩
  rw [hL, yrTo_at _ _ _ 12 i hi, even_due hN hN1 hM hM1 hR hR1 (i + 1) (by omega), even_due hN hN1 hM hM1 hR hR1 i (by omega)]
  rw [Int.natCast_add, Int.add_mul]
  generalize max (N - M) 0 * R = V
  generalize (i : Int) * V = Y
  simp
  omega
/-- the tariff's variable and its bracket -/
structure EV (w1 : World) (cs br : Array Value) (W : World) : Prop where
  bx : BX w1 cs W
  bk : Blk W (w1.heap.size + 1) 54 br
theorem EV.calc_ {w1 W W' : World} {cs br : Array Value} (h : EV w1 cs br W) (hb : Below W.heap.size W W') : EV w1 cs br W' := ⟨h.bx.calc_ hb, h.bk.below hb h.bk.lt⟩
theorem EV.app {w1 W w3 : World} {cs br : Array Value} {o : Obj} (h : EV w1 cs br W) (hb : Below (w1.heap.size + 2) (W.alloc o) w3) : EV w1 cs br w3 := by
  have h1 := h.calc_ ((Below.refl _ _).alloc (Nat.le_refl _) o)
  exact ⟨⟨h1.bx.below.trans (hb.mono (by omega)), h1.bx.box.below hb (by omega)⟩, h1.bk.below hb (by omega)⟩
theorem rdP_blk {W : World} {g : Nat} {t : TypeId} {x y : Int} (h : Blk W g t #[.int .i64 x, .int .i64 y]) : RdP W W.heap.size (some ⟨g, 0, none⟩) [(x, y)] := by
  intro _
  refine ⟨g, 0, rfl, h.lt, fun i j hi hj => ?_⟩
  have hi0 : i = 0 := by simp at hi; omega
  subst hi0
  rcases (show j = 0 ∨ j = 1 by omega) with rfl | rfl
  · rw [h.cell]; rfl
  · rw [h.cell]; rfl

set_option maxHeartbeats 6400000 in
theorem withholdingEven_walk (a0 a1 a2 : Int) (w : World) (h0 : InR a0) (h1 : InR a1) (h2 : InR a2) :
    Calls Try.prog 7 #[.int .i64 a0, .int .i64 a1, .int .i64 a2] w (RetB true w) := by
  have HP : Hid (∀ m W, Calls Try.prog 29 #[.int .i64 m] W (PlPost m W)) := Lib.hid plain_any
  obtain ⟨i0, hi, hz0, hz1, hz2⟩ := info_parts infoInt
  clear h0 h1 h2
  go_enter Try.func7, Try.ntmps7
  go_wp2_with fail
  refine (HP.out 3 _).mono ?_
  rintro e w1 ⟨L1, rfl, hb1, hr1⟩
  have HB := Lib.hid hb1
  have HR := Lib.hid hr1
  clear hb1 hr1 HP
  go_wp2_with fail
  refine (mod_any a0 10000 _ (by omega) (by omega)).mono ?_
  rintro e w2 ⟨rfl, rfl⟩
  have hq0 : 0 ≤ a0 % 10000 := by omega
  have hq0' : a0 % 10000 < 10000 := by omega
  generalize a0 % 10000 = N at *
  go_wp2_with fail
  refine (mod_any a1 1000 _ (by omega) (by omega)).mono ?_
  rintro e w2 ⟨rfl, rfl⟩
  have hq1 : 0 ≤ a1 % 1000 := by omega
  have hq1' : a1 % 1000 < 1000 := by omega
  generalize a1 % 1000 = M at *
  go_wp2_with fail
  refine (mod_any a2 101 _ (by omega) (by omega)).mono ?_
  rintro e w2 ⟨rfl, rfl⟩
  have hq2 : 0 ≤ a2 % 101 := by omega
  have hq2' : a2 % 101 < 101 := by omega
  generalize a2 % 101 = R at *
  have HEV : Hid (EV w1 #[.int .i64 3, .slice (some ⟨w1.heap.size + 1, 0, none⟩) 1 1, .int .i64 (1200 * M), .int .i64 0, .int .i64 1, .int .i64 0, .slice L1.Ar 0 L1.nr] #[.int .i64 0, .int .i64 (10000 * R)] ((w1.alloc (.cells #[.int .i64 3, .slice (some ⟨w1.heap.size + 1, 0, none⟩) 1 1, .int .i64 (1200 * M), .int .i64 0, .int .i64 1, .int .i64 0, .slice L1.Ar 0 L1.nr] 33)).alloc (.cells #[.int .i64 0, .int .i64 (10000 * R)] 54))) := Lib.hid ⟨(BX.start w1 _).calc_ ((Below.refl _ _).alloc (Nat.le_refl _) _), Blk.new' (by simp)⟩
  go_wp2
  go_loopw [9, 10] (fun v i wr => ∃ (k : Nat) (A1 : Option Addr) (c1 : Nat), k ≤ 12 ∧ i = .int .i64 k ∧ v = .slice A1 (rep (100 * N) k).length c1 ∧ OwnI wr (w1.heap.size + 2) A1 c1 (rep (100 * N) k) ∧ EV w1 #[.int .i64 3, .slice (some ⟨w1.heap.size + 1, 0, none⟩) 1 1, .int .i64 (1200 * M), .int .i64 0, .int .i64 1, .int .i64 0, .slice L1.Ar 0 L1.nr] #[.int .i64 0, .int .i64 (10000 * R)] wr) (fun _ i _ => 12 - (intOf i).toNat)
  case atStart => exact ⟨0, none, 0, Nat.zero_le _, rfl, rfl, World.ownsRow_nil _ _ _ _, HEV.out⟩
  case round =>
    obtain ⟨k, A1, c1, hk, rfl, rfl, hown, hev⟩ := hrel
    have HOW := Lib.hid hown
    have HEV := Lib.hid hev
    have hbl := hev.bk.lt
    have hlen := Nat.le_of_eq (rep_len (100 * N) k)
    clear hown hev
    by_cases hlt : k < 12
    · have HRS := Lib.hid (rep_succ (100 * N) k)
      generalize hR0 : rep (100 * N) k = Y0 at *
      clear hR0
      go_wp2_with (at_builtin; go_must (refine wpList_append_sl _ rfl _ _ 22 rfl (w1.heap.size + 2) 3 i0 _ 1 8 Try.underlying22 hi hz0 hz1 hz2 rfl (by decide) A1 c1 _ (Y0.map (Value.int .i64)) rfl (by exact World.ownsRow.alloc HOW.out _) ⟨_, 0, none⟩ 1 1 [.int .i64 (100 * N)] rfl rfl ?c1 ?c2 ?c3 ?c4 ?c5 ?_))
      case c1 => exact cells_at _ _ [.int .i64 (100 * N)] _ (by simp)
      case c2 => exact ints_one [100 * N]
      case c3 => unfold maxLen; omega
      case c4 => omega
      case c5 => simp; omega
      intro A3 c3 w4 hown3 hb3
      have HO3 := Lib.hid (ownI_snoc hown3)
      have HB4 := Lib.hid (HEV.out.app hb3)
      clear hown3 hb3
      go_wp2
      go_roundw
      case rel => exact ⟨k + 1, A3, c3, by omega, by go_num, by rw [HRS.out]; simp, by rw [HRS.out]; exact HO3.out, HB4.out⟩
      case measure => simp [intOf]; omega
    · obtain rfl : k = 12 := by omega
      obtain ⟨hE, hK, hAt⟩ := even_list hq0 hq0' hq1 hq1' hq2 hq2'
      have HY : Hid (Calls Try.prog 26 #[.agg #[.int .i64 3, .slice (some ⟨w1.heap.size + 1, 0, none⟩) 1 1, .int .i64 (1200 * M), .int .i64 0, .int .i64 1, .int .i64 0, .slice L1.Ar 0 L1.nr], .int .i64 12, .slice A1 (rep (100 * N) 12).length c1] wr (fun e w' => ∃ A n, e = .returned (.tuple #[.slice A (yrL (eT 3 (10000 * R) (1200 * M)) 12 (rep (100 * N) 12)).length n, .int .i64 0]) ∧ Below wr.heap.size wr w' ∧ RdI w' w'.heap.size A (yrL (eT 3 (10000 * R) (1200 * M)) 12 (rep (100 * N) 12)))) := Lib.hid (by
        have h := year_any (eT 3 (10000 * R) (1200 * M)) ⟨some ⟨w1.heap.size + 1, 0, none⟩, 1, L1.Ar, L1.nr⟩ wr ⟨rdP_blk HEV.out.bk, Rd.none_, by simp [eT], by simp [eT]⟩ 12 A1 c1 (rep (100 * N) 12) (own_rdI HOW.out) (by rw [rep_len]; omega)
        refine Calls.mono h ?_
        rintro e w' ⟨A, n, g1, g2, g3⟩
        rw [hE] at g1
        exact ⟨A, n, g1, g2, g3⟩)
      have HAT := Lib.hid hAt
      have x0 := HEV.out.bx.box.cell 0
      have x1 := HEV.out.bx.box.cell 1
      have x2 := HEV.out.bx.box.cell 2
      have x3 := HEV.out.bx.box.cell 3
      have x4 := HEV.out.bx.box.cell 4
      have x5 := HEV.out.bx.box.cell 5
      have x6 := HEV.out.bx.box.cell 6
      simp at x0 x1 x2 x3 x4 x5 x6
      have HK := Lib.hid hK
      clear hE hK hAt hlen
      generalize yrL (eT 3 (10000 * R) (1200 * M)) 12 (rep (100 * N) 12) = K at *
      go_wp2_with fail
      refine HY.out.mono ?_
      rintro e w5 ⟨A5, n5, rfl, hb5, hr5⟩
      have HB5 := Lib.hid (HB.out.trans (((HEV.out.bx.below).trans (hb5.mono HEV.out.bx.below.size)).mono HB.out.size))
      have HR5 := Lib.hid hr5
      have hK := HK.out
      have t1 : ((K.length : Int) != 12) = false := by simp [hK]
      clear hb5 hr5 HY x0 x1 x2 x3 x4 x5 x6
      go_wp2
      go_loopw [13] (fun i wr => ∃ j : Nat, j ≤ 12 ∧ i = .int .i64 j ∧ ∃ m, wr = w5.drewN m) (fun i _ => 12 - (intOf i).toNat)
      case atStart => exact ⟨0, Nat.zero_le _, rfl, 0, rfl⟩
      case round =>
        obtain ⟨j, hj, rfl, m, rfl⟩ := hrel
        by_cases hlt : j < 12
        · obtain ⟨b, off, rfl, hb, e1⟩ := HR5.out.at_ (i := j) (by omega)
          obtain ⟨b1, off1, hbe, _, e2⟩ := HR5.out.at_ (i := 0) (by omega)
          injection hbe with hbe
          injection hbe with hbe1 hbe2
          subst hbe1 hbe2
          have e2' : w5.cell? ⟨b, off, none⟩ = some (.int .i64 (at1 K 0)) := by simpa using e2
          have e3 : (at1 K j != at1 K 0) = false := by rw [HAT.out j hlt, HAT.out 0 (by omega)]; simp
          have hk1 : (0 : Int) ≤ (j : Int) := by omega
          have hk2 : (j : Int) < 12 := by omega
          go_wp2
          go_quiet (fail)
          go_wp2
          go_roundw
          case rel => exact ⟨j + 1, by omega, by go_num, _, rfl⟩
          case measure => simp [intOf]; omega
        · go_wp2_with fail
          refine (awake_any _).mono ?_
          rintro e w9 ⟨rfl, hb9⟩
          have HBE := Lib.hid ((below_drewN HB5.out m).trans (hb9.mono (Nat.le_trans HB5.out.size (Nat.le_refl _))))
          clear hb9
          go_wp2
          go_ret
          exact ⟨rfl, HBE.out⟩
end Go.Proofs.Ytcincmlpegnaiaa
