/-
  Chapter 41: the walk of StoreRecovers. The memory is that of the given program; no conditions.
-/
import Derived.Test.YtabnlnhnefjebaaLw9
namespace Go.Proofs.Ytabnlnhnefjebaa
open Go.RowKit
set_option linter.unusedVariables false
set_option linter.unusedSimpArgs false
theorem CrashR.synced {rs : List (List Int)} {sy : Nat} {R : List (List Int)} : dur R (needs R) = R.length := dur_full R
set_option maxRecDepth 100000 in
set_option maxHeartbeats 3200000 in
theorem storeRecovers_walk (A : Option Addr) (c : Nat) (l : List Int) (which torn : Int) (w : World) (hr : RdI w w.heap.size A l) (hl : l.length ≤ 9223372036854775807) (_ : ∀ i, i < l.length → InR (at1 l i)) (hw : InU which) (ht : InR torn) :
    Calls Try.prog 7 #[.slice A l.length c, .int .u64 which, .int .i64 torn] w (RetB true w) := by
  have HR := Lib.hid hr
  have HWh := Lib.hid hw
  obtain ⟨n, Hn⟩ : ∃ n, Hid (n = l.length) := ⟨_, Lib.hid rfl⟩
  have HLe : Hid (l.length ≤ 9223372036854775807) := Lib.hid hl
  obtain ⟨g, Hg⟩ : ∃ g, Hid (g = w.heap.size) := ⟨_, Lib.hid rfl⟩
  rw [← Hn.out]
  clear hr hl hw ht
  go_enter Try.func7, Try.ntmps7
  go_wp2_with fail
  refine (new_deck Hn Hg HR HLe).mono ?_
  rintro e w1 ⟨rfl, hb1, hd1⟩
  have HB1 := Lib.hid hb1
  have HD1 := Lib.hid hd1
  clear hb1 hd1
  go_wp2_with fail
  refine (play_any g 0 12 _ HD1.out (by decide) (by decide)).mono ?_
  rintro e w2 ⟨p, q, own, own', rs, sy, rfl, hps⟩
  have HP := Lib.hid hps
  clear hps
  have HOK : Hid (RsOk rs sy) := Lib.hid HP.out.ps.rf.rsOk
  have HS2 : Hid (St w2 p own (brecs 0 rs) sy) := Lib.hid HP.out.ps.st
  obtain ⟨m, Hm⟩ : ∃ m, Hid (m = needs rs * 32) := ⟨_, Lib.hid rfl⟩
  obtain ⟨cb, Hcb⟩ : ∃ cb, Hid (cb = (crashB (wbit which) (keepOf torn) sy (brecs 0 rs)).flatten) := ⟨_, Lib.hid rfl⟩
  obtain ⟨R, HRd⟩ : ∃ R, Hid (R = opn cb) := ⟨_, Lib.hid rfl⟩
  have HCR : Hid (CrashR rs sy R) := Lib.hid (by rw [HRd.out, Hcb.out]; exact crash_read HOK.out _ _ (keepOf_le torn))
  have HM8 : Hid (m ≤ 100000000) := Lib.hid (by have := HOK.out.len; have := Hm.out; omega)
  obtain ⟨k, Hk⟩ : ∃ k, Hid (k = R.length) := ⟨_, Lib.hid rfl⟩
  obtain ⟨nr, Hnr⟩ : ∃ nr, Hid (nr = rs.length) := ⟨_, Lib.hid rfl⟩
  obtain ⟨d, Hd⟩ : ∃ d, Hid (d = dur rs sy) := ⟨_, Lib.hid rfl⟩
  have hkn : k ≤ nr := by rw [Hk.out, Hnr.out]; exact HCR.out.le
  have hdk : d ≤ k := by rw [Hk.out, Hd.out]; exact HCR.out.ge
  have Hk2 : Hid (k = dur R (needs R)) := Lib.hid (by rw [dur_full]; exact Hk.out)
  have HTk : Hid (rs.take k = R) := Lib.hid (by rw [Hk.out]; exact HCR.out.eq.symm)
  have hnr : nr ≤ 16384 := by rw [Hnr.out]; exact HOK.out.rlen
  go_wp2_with fail
  refine (crashR_at Hm Hcb HWh.out.1 HWh.out.2 HS2.out).mono ?_
  rintro e w3 ⟨gc, rfl, hgc, hb3, hl3, hbel3⟩
  have HB3 := Lib.hid hb3
  have HL3 := Lib.hid hl3
  have HE3 := Lib.hid hbel3
  have HS3 := Lib.hid (HS2.out.below hbel3)
  clear hb3 hl3 hbel3 hgc
  go_wp2_with fail
  refine (openR_at HRd HL3.out HB3.out (crash_bytes_ok Hcb HOK) HM8.out).mono ?_
  rintro e w4 ⟨p2, own2, rfl, ht4, hbel4, _, _, hok4⟩
  have HT4 := Lib.hid ht4
  have HE4 := Lib.hid hbel4
  have HS4 := Lib.hid (HS3.out.below hbel4)
  have HOK4 := Lib.hid hok4
  clear ht4 hbel4 hok4
  go_wp2_with fail
  refine (records_at Hk HT4.out HOK4).mono ?_
  rintro e w5 ⟨A5, c5, rfl, ha5, hbel5⟩
  have HA5 := Lib.hid ha5
  have HE5 := Lib.hid hbel5
  have HT5 := Lib.hid (HT4.out.below hbel5)
  have HS5 := Lib.hid (HS4.out.below hbel5)
  clear ha5 hbel5
  go_wp2_with fail
  refine (records_at Hnr HS5.out HOK).mono ?_
  rintro e w6 ⟨A6, c6, rfl, ha6, hbel6⟩
  have HA6 := Lib.hid ha6
  have HA6b := Lib.hid (HA5.out.below hbel6)
  have HE6 := Lib.hid hbel6
  have HT6 := Lib.hid (HT5.out.below hbel6)
  have HS6 := Lib.hid (HS5.out.below hbel6)
  have hc6 := ha6.cap
  clear ha6 hbel6
  go_wp2_with fail
  refine (synced_at Hd HS6.out HOK).mono ?_
  rintro e w7 ⟨rfl, hbel7⟩
  have HE7 := Lib.hid hbel7
  have HA7 := Lib.hid (HA6.out.below hbel7)
  have HA7b := Lib.hid (HA6b.out.below hbel7)
  have HT7 := Lib.hid (HT6.out.below hbel7)
  clear hbel7
  go_wp2_with fail
  refine (same_at HA7b.out (rec_take HA7 HTk hkn) (by omega)).mono ?_
  rintro e w8 ⟨rfl, hbel8⟩
  have HE8 := Lib.hid hbel8
  have HT8 := Lib.hid (HT7.out.below hbel8)
  clear hbel8
  go_wp2_with fail
  refine (synced_at Hk2 HT8.out HOK4).mono ?_
  rintro e w9 ⟨rfl, hbel9⟩
  have HE9 := Lib.hid hbel9
  clear hbel9
  go_wp2_with fail
  refine (awake_any _).mono ?_
  rintro e w10 ⟨rfl, hbel10⟩
  have HE10 := Lib.hid hbel10
  clear hbel10
  go_wp2
  go_ret
  exact ⟨rfl, law_bel Hg HB1 HP.out.on (Lib.hid ((Bel.trans (Bel.trans (Bel.trans (Bel.trans (Bel.trans (Bel.trans (Bel.trans HE3.out HE4.out) HE5.out) HE6.out) HE7.out) HE8.out) HE9.out) HE10.out)))⟩
end Go.Proofs.Ytabnlnhnefjebaa
