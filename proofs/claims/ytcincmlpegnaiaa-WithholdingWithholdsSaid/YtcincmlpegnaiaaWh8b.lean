/-
  Chapter 30: Year of the reference.
-/
import Derived.Test.YtcincmlpegnaiaaWh8
namespace Go.Proofs.Ytcincmlpegnaiaa
open Go.RowKit
set_option linter.unusedVariables false
set_option linter.unusedSimpArgs false

set_option maxHeartbeats 6400000 in
theorem ryear_any (t : TF) (L : TL) (w : World) (hr : RdT w w.heap.size L t) (c : Int) (Ax : Option Addr) (nx : Nat) (xs : List Int) (hx : RdI w w.heap.size Ax xs) (hl : xs.length ≤ 9223372036854775807) : Calls Try.prog 27 #[.agg #[.int .i64 t.m, .slice L.Ab t.bk.length L.nb, .int .i64 t.al, .int .i64 t.cr, .int .i64 t.un, .int .i64 t.mo, .slice L.Ar t.rw.length L.nr], .int .i64 c, .slice Ax xs.length nx] w (YrPost t c xs w) := by
  have HVA : Hid (∀ W, BX w #[.int .i64 t.m, .slice L.Ab t.bk.length L.nb, .int .i64 t.al, .int .i64 t.cr, .int .i64 t.un, .int .i64 t.mo, .slice L.Ar t.rw.length L.nr] W → Calls Try.prog 44 #[.agg #[.int .i64 t.m, .slice L.Ab t.bk.length L.nb, .int .i64 t.al, .int .i64 t.cr, .int .i64 t.un, .int .i64 t.mo, .slice L.Ar t.rw.length L.nr]] W (RetB (tvB t) W)) := Lib.hid (fun W h => rvalid_any t L w.heap.size W (hr.below h.below) h.below.size)
  have HAM : Hid (∀ x W, Calls Try.prog 45 #[.int .i64 x, .int .i64 1000000000] W (RetQ (amtB x) W)) := Lib.hid (fun x W => in_any x 1000000000 W)
  have HCU : Hid (∀ k tot wh W, BX w #[.int .i64 t.m, .slice L.Ab t.bk.length L.nb, .int .i64 t.al, .int .i64 t.cr, .int .i64 t.un, .int .i64 t.mo, .slice L.Ar t.rw.length L.nr] W → Calls Try.prog 24 #[.agg #[.int .i64 t.m, .slice L.Ab t.bk.length L.nb, .int .i64 t.al, .int .i64 t.cr, .int .i64 t.un, .int .i64 t.mo, .slice L.Ar t.rw.length L.nr], .int .i64 c, .int .i64 k, .int .i64 tot, .int .i64 wh] W (RetII (cumV t c k tot wh) (cumE t c k tot wh) W)) := Lib.hid (fun k tot wh W h => rcumulative_any t L w.heap.size W (hr.below h.below) h.below.size c k tot wh)
  have HRX : Hid (∀ W, BX w #[.int .i64 t.m, .slice L.Ab t.bk.length L.nb, .int .i64 t.al, .int .i64 t.cr, .int .i64 t.un, .int .i64 t.mo, .slice L.Ar t.rw.length L.nr] W → RdI W w.heap.size Ax xs) := Lib.hid (fun W h => hx.below h.below)
  have HBX := Lib.hid (BX.start w #[.int .i64 t.m, .slice L.Ab t.bk.length L.nb, .int .i64 t.al, .int .i64 t.cr, .int .i64 t.un, .int .i64 t.mo, .slice L.Ar t.rw.length L.nr])
  obtain ⟨i0, hi, hz0, hz1, hz2⟩ := info_parts infoInt
  clear hr hx
  cases hv : tvB t
  · have HN := Lib.hid (yr_bad (c := c) (xs := xs) hv)
    rw [hv] at HVA
    clear hv
    go_enter Try.func27, Try.ntmps27
    go_wp2_with fail
    refine (HVA.out _ HBX.out).mono ?_
    rintro e w1 ⟨rfl, hb⟩
    have HBX := Lib.hid (HBX.out.calc_ hb)
    clear hb
    go_wp2
    go_ret2
    exact yr_no HN.out (by omega) HBX.out.below
  · rw [hv] at HVA
    have HLIM : Hid (¬ yrP c xs → yrE t c xs = 3) := Lib.hid (yr_lim hv)
    rcases bool_cases (c < 1) with t0 | t0
    · have HN := Lib.hid (HLIM.out (by simp at t0; omega))
      clear HLIM hv
      go_enter Try.func27, Try.ntmps27
      go_wp2_with fail
      refine (HVA.out _ HBX.out).mono ?_
      rintro e w1 ⟨rfl, hb⟩
      have HBX := Lib.hid (HBX.out.calc_ hb)
      clear hb
      go_wp2
      go_ret2
      exact yr_no HN.out (by omega) HBX.out.below
    rcases bool_cases (53 < c) with t1 | t1
    · have HN := Lib.hid (HLIM.out (by simp at t1; omega))
      clear HLIM hv
      go_enter Try.func27, Try.ntmps27
      go_wp2_with fail
      refine (HVA.out _ HBX.out).mono ?_
      rintro e w1 ⟨rfl, hb⟩
      have HBX := Lib.hid (HBX.out.calc_ hb)
      clear hb
      go_wp2
      go_ret2
      exact yr_no HN.out (by omega) HBX.out.below
    rcases bool_cases (c < (xs.length : Int)) with t2 | t2
    · have HN := Lib.hid (HLIM.out (by simp at t2; omega))
      clear HLIM hv
      go_enter Try.func27, Try.ntmps27
      go_wp2_with fail
      refine (HVA.out _ HBX.out).mono ?_
      rintro e w1 ⟨rfl, hb⟩
      have HBX := Lib.hid (HBX.out.calc_ hb)
      clear hb
      go_wp2
      go_ret2
      exact yr_no HN.out (by omega) HBX.out.below
    have hp : yrP c xs := by simp at t0 t1 t2; omega
    have HOK : Hid (allA xs xs.length → yrE t c xs = 0) := Lib.hid (yr_ok hv hp)
    have HRG : Hid (¬ allA xs xs.length → yrE t c xs = 2) := Lib.hid (yr_range hv hp)
    have HCA : Hid (∀ k : Nat, (k : Int) + 1 ≤ c → allA xs (k + 1) → ∀ W, BX w #[.int .i64 t.m, .slice L.Ab t.bk.length L.nb, .int .i64 t.al, .int .i64 t.cr, .int .i64 t.un, .int .i64 t.mo, .slice L.Ar t.rw.length L.nr] W → Calls Try.prog 24 #[.agg #[.int .i64 t.m, .slice L.Ab t.bk.length L.nb, .int .i64 t.al, .int .i64 t.cr, .int .i64 t.un, .int .i64 t.mo, .slice L.Ar t.rw.length L.nr], .int .i64 c, .int .i64 (k + 1), .int .i64 (totTo xs k + at1 xs k), .int .i64 (dAt t c xs k)] W (RetII (dAt t c xs (k + 1) - dAt t c xs k) 0 W)) := Lib.hid (fun k hk ha W h => by
      have h1 := HCU.out (k + 1) (totTo xs k + at1 xs k) (dAt t c xs k) W h
      have h2 := cum_at hv hp.1 hp.2.1 hk ha
      rw [totTo_succ] at h2
      rw [h2.1, h2.2] at h1
      exact h1)
    have HDB : Hid (∀ k : Nat, (k : Int) ≤ c → allA xs k → 0 ≤ dAt t c xs k ∧ dAt t c xs k ≤ 53000000100) := Lib.hid (fun k hk ha => dAt_bd hv hp.1 hp.2.1 hk ha)
    obtain ⟨hp1, hp2, hp3⟩ := hp
    clear HLIM HCU hv
    go_enter Try.func27, Try.ntmps27
    go_wp2_with fail
    refine (HVA.out _ HBX.out).mono ?_
    rintro e w1 ⟨rfl, hb⟩
    have HBX := Lib.hid (HBX.out.calc_ hb)
    clear hb
    go_wp2
    go_loopw [8] (fun i wr => ∃ k : Nat, k ≤ xs.length ∧ i = .int .i64 k ∧ allA xs k ∧ BX w #[.int .i64 t.m, .slice L.Ab t.bk.length L.nb, .int .i64 t.al, .int .i64 t.cr, .int .i64 t.un, .int .i64 t.mo, .slice L.Ar t.rw.length L.nr] wr) (fun i _ => xs.length - (intOf i).toNat)
    case atStart => exact ⟨0, Nat.zero_le _, rfl, (fun i hi => by omega), HBX.out⟩
    case round =>
      obtain ⟨k, hk, rfl, ha, hbx⟩ := hrel
      have HA := Lib.hid ha
      have HBX := Lib.hid hbx
      clear ha hbx
      by_cases hlt : k < xs.length
      · obtain ⟨b, off, rfl, hb, e1⟩ := (HRX.out _ HBX.out).at_ hlt
        have HAX := Lib.hid (HAM.out (at1 xs k))
        cases ham : amtB (at1 xs k)
        · have HN := Lib.hid (HRG.out (fun h => by rw [h k hlt] at ham; cases ham))
          rw [ham] at HAX
          clear ham
          go_wp2_with fail
          refine (HAX.out _).mono ?_
          rintro e wc ⟨rfl, rfl⟩
          go_wp2
          go_ret2
          exact yr_no HN.out (by omega) HBX.out.below
        · have HN := Lib.hid (allA_next HA.out ham)
          rw [ham] at HAX
          clear ham
          go_wp2_with fail
          refine (HAX.out _).mono ?_
          rintro e wc ⟨rfl, rfl⟩
          go_wp2
          go_roundw
          case rel => exact ⟨k + 1, by omega, by go_num, HN.out, HBX.out⟩
          case measure => simp [intOf]; omega
      · obtain rfl : k = xs.length := by omega
        have HE := Lib.hid (HOK.out HA.out)
        have hbl := HBX.out.box.lt
        clear HOK HRG hlt hk
        go_wp2
        go_loopw [9, 10, 11, 12, 13, 14] (fun v10 v11 v12 i _ _ wr => ∃ (k : Nat) (A1 : Option Addr) (c1 : Nat), k ≤ xs.length ∧ i = .int .i64 k ∧ v10 = .slice A1 (yrTo t c xs k).length c1 ∧ v11 = .int .i64 (totTo xs k) ∧ v12 = .int .i64 (dAt t c xs k) ∧ OwnI wr (w.heap.size + 1) A1 c1 (yrTo t c xs k) ∧ BX w #[.int .i64 t.m, .slice L.Ab t.bk.length L.nb, .int .i64 t.al, .int .i64 t.cr, .int .i64 t.un, .int .i64 t.mo, .slice L.Ar t.rw.length L.nr] wr) (fun _ _ _ i _ _ _ => xs.length - (intOf i).toNat)
        case atStart => exact ⟨0, none, 0, Nat.zero_le _, rfl, rfl, rfl, rfl, World.ownsRow_nil _ _ _ _, HBX.out⟩
        case round =>
          obtain ⟨k, A1, c1, hk, rfl, rfl, rfl, rfl, hown, hbx⟩ := hrel
          have HOW := Lib.hid hown
          have HBX := Lib.hid hbx
          have hlen := Nat.le_of_eq (yrTo_len t c xs k)
          have hbl := hbx.box.lt
          clear hown hbx
          by_cases hlt : k < xs.length
          · obtain ⟨b, off, rfl, hb, e1⟩ := (HRX.out _ HBX.out).at_ hlt
            have HCK := Lib.hid (HCA.out k (by omega) (fun i hi => HA.out i (by omega)))
            have hd0 := HDB.out k (by omega) (fun i hi => HA.out i (by omega))
            have hd1 := HDB.out (k + 1) (by omega) (fun i hi => HA.out i (by omega))
            have ht0 := tot_bd k (fun i hi => HA.out i (by omega))
            have hta := amt_iff.1 (HA.out k (by omega))
            have hb1 : b < wr.heap.size := by have := HBX.out.below.size; omega
            have HY : Hid (yrTo t c xs (k + 1) = yrTo t c xs k ++ [dAt t c xs (k + 1) - dAt t c xs k]) := Lib.hid rfl
            have HT1 : Hid (totTo xs (k + 1) = totTo xs k + at1 xs k) := Lib.hid rfl
            generalize totTo xs k = T0 at *
            generalize hD1 : dAt t c xs (k + 1) = D1 at *
            have HD1 := Lib.hid hD1
            clear hD1
            generalize dAt t c xs k = D0 at *
            generalize yrTo t c xs k = Y0 at *
            generalize at1 xs k = X0 at *
            have x0 := HBX.out.box.cell 0
            have x1 := HBX.out.box.cell 1
            have x2 := HBX.out.box.cell 2
            have x3 := HBX.out.box.cell 3
            have x4 := HBX.out.box.cell 4
            have x5 := HBX.out.box.cell 5
            have x6 := HBX.out.box.cell 6
            simp at x0 x1 x2 x3 x4 x5 x6
            go_wp2_with fail
            refine (HCK.out _ HBX.out).mono ?_
            rintro e w3 ⟨rfl, hb3⟩
            have HOW := Lib.hid (HOW.out.calc_ hb3)
            have HBX := Lib.hid (HBX.out.calc_ hb3)
            have hbl := HBX.out.box.lt
            clear hb3 x0 x1 x2 x3 x4 x5 x6 HCK
            go_wp2_with (at_builtin; go_must (refine wpList_append_sl _ rfl _ _ 22 rfl (w.heap.size + 1) 3 i0 _ 1 8 Try.underlying22 hi hz0 hz1 hz2 rfl (by decide) A1 c1 _ (Y0.map (Value.int .i64)) rfl (by exact World.ownsRow.alloc HOW.out _) ⟨_, 0, none⟩ 1 1 [.int .i64 (D1 - D0)] rfl rfl ?c1 ?c2 ?c3 ?c4 ?c5 ?_))
            case c1 => exact cells_at _ _ [.int .i64 (D1 - D0)] _ (by simp)
            case c2 => exact ints_one [D1 - D0]
            case c3 => unfold maxLen; omega
            case c4 => omega
            case c5 => simp; omega
            intro A3 c3 w4 hown3 hb3
            have HO3 := Lib.hid (ownI_snoc hown3)
            have HB4 := Lib.hid (HBX.out.app hb3)
            clear hown3 hb3
            go_wp2
            go_roundw
            case rel => exact ⟨k + 1, A3, c3, by omega, by go_num, by rw [HY.out]; simp, by rw [HT1.out], by rw [HD1.out, show D0 + (D1 - D0) = D1 by omega], by rw [HY.out]; exact HO3.out, HB4.out⟩
            case measure => simp [intOf]; omega
          · obtain rfl : k = xs.length := by omega
            go_wp2
            go_ret2
            exact yr_yes HE.out HBX.out.below (own_rdI HOW.out)

end Go.Proofs.Ytcincmlpegnaiaa
