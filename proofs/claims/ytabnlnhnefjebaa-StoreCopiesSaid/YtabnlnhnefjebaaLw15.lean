/-
  Chapter 41: the walk of StoreCopies, second part. The memory is that of the given program; no conditions.
-/
import Derived.Test.YtabnlnhnefjebaaLw14
namespace Go.Proofs.Ytabnlnhnefjebaa
open Go.RowKit
set_option linter.unusedVariables false
set_option linter.unusedSimpArgs false
theorem byte_fit {w : World} {g j M : Nat} {ys : List Int} (hl : Hid (ys.length = M)) (hb : Hid (Blk w g 5 (u8s ys).toArray)) (hj : j < M) : ∃ v, w.cell? ⟨g, j, none⟩ = some (.int .u8 v) := by
  refine ⟨ys[j]'(by rw [hl.out]; exact hj), ?_⟩
  rw [hb.out.cell j]
  simp [u8s, hl.out, hj]
theorem copyS_at {w : World} {p : Nat} {own : Option Nat} {B : List (List Int)} {sy : Nat} (h : St w p own B sy) : Calls Try.prog 35 #[.pointer (some ⟨p, 0, none⟩)] w (CopyPost B sy w) := copy_any p own B sy w h
set_option maxRecDepth 100000 in
set_option maxHeartbeats 6400000 in
theorem storeCopies_walk (A : Option Addr) (c : Nat) (l : List Int) (w : World) (hr : RdI w w.heap.size A l) (hl : l.length ≤ 9223372036854775807) (_ : ∀ i, i < l.length → InR (at1 l i)) :
    Calls Try.prog 10 #[.slice A l.length c] w (RetB true w) := by
  have HR := Lib.hid hr
  obtain ⟨n, Hn⟩ : ∃ n, Hid (n = l.length) := ⟨_, Lib.hid rfl⟩
  have HLe : Hid (l.length ≤ 9223372036854775807) := Lib.hid hl
  obtain ⟨g, Hg⟩ : ∃ g, Hid (g = w.heap.size) := ⟨_, Lib.hid rfl⟩
  rw [← Hn.out]
  clear hr hl
  go_enter Try.func10, Try.ntmps10
  go_wp2_with fail
  refine (new_deck Hn Hg HR HLe).mono ?_
  rintro e w1 ⟨rfl, hb1, hd1⟩
  have HB1 := Lib.hid hb1
  have HD1 := Lib.hid hd1
  clear hb1 hd1
  go_wp2_with fail
  refine (play_any g 0 6 _ HD1.out (by decide) (by decide)).mono ?_
  rintro e w2 ⟨p, q, own, own', rs, sy, rfl, hps⟩
  have HP := Lib.hid hps
  have Hs2 := Lib.hid hps.ps.st.lt
  have Hr2 := Lib.hid hps.ps.rf.lt
  clear hps
  go_wp2_with fail
  refine (copyS_at HP.out.ps.st).mono ?_
  rintro e w3 ⟨pt, ownt, rfl, ht, hb3, hpt, hot⟩
  have HT3 := Lib.hid ht
  have HE3 := Lib.hid hb3
  have HPt := Lib.hid hpt
  have HOt := Lib.hid hot
  have HP3 := Lib.hid (HP.out.below hb3)
  clear ht hb3 hpt hot HP
  go_wp2_with fail
  refine (rcopy_any q own' rs sy _ HP3.out.ps.rf).mono ?_
  rintro e w4 ⟨qt, ownq, rfl, hq, hb4, hqt, hoq⟩
  have HTQ4 : Hid (TQ w4 w2.heap.size pt ownt qt ownq rs sy) := Lib.hid ⟨HT3.out.below hb4, hq, HPt.out, Nat.le_trans HE3.out.size hqt, HOt.out, fun k e => Nat.le_trans HE3.out.size (hoq k e)⟩
  have HP4 := Lib.hid (HP3.out.below hb4)
  clear hq hb4 hqt hoq HP3 HT3 HE3 HPt HOt
  go_wp2_with fail
  refine (record_any g _ _ HP4.out.ps.deck (by decide)).mono ?_
  rintro e w5 ⟨gb, mb, b, rfl, hlb, hmb, hokb, hgb, hbb, ho5, hd5⟩
  have HTQ5 := Lib.hid (HTQ4.out.drawn HP4.out.ps.deck ho5)
  have HP5 := Lib.hid (HP4.out.drawn ho5 hd5)
  have HLB := Lib.hid hlb
  have HOB := Lib.hid hokb
  have HBB := Lib.hid hbb
  clear ho5 hd5 hlb hokb hbb hgb HTQ4 HP4
  obtain ⟨er, Her⟩ : ∃ er, Hid (er = appE (brecs 0 rs) b.length) := ⟨_, Lib.hid rfl⟩
  go_wp2_with fail
  refine (append_at Her HP5.out.ps.st HLB HBB HOB (by omega)).mono ?_
  rintro e w6 ⟨rfl, own1, hs6, ho6, hk6⟩
  have Hs6 := Lib.hid hs6
  have Ho6 := Lib.hid ho6
  have Hk6 := Lib.hid hk6
  have HTQ6 := Lib.hid (HTQ5.out.besideS HP5.out.ps.st Hs2.out.1 Hs2.out.2 hk6)
  clear hs6 ho6 hk6 HTQ5
  go_wp2_with fail
  have HR6 := Lib.hid (HP5.out.ps.rf.besideSt HP5.out.ps.st Hk6.out)
  refine (rappend_at Her HR6.out HLB (Lib.hid (HBB.out.besideSt HP5.out.ps.st Hk6.out)) HOB).mono ?_
  rintro e w7 ⟨rfl, own2, hs7, ho7, hk7⟩
  have HTQ7 := Lib.hid (HTQ6.out.besideR HR6.out Hr2.out.1 Hr2.out.2 hk7)
  have HP7 := Lib.hid (HP5.out.app Hs6.out Ho6.out Hk6.out hs7 ho7 hk7)
  obtain ⟨rs2, Hrs2⟩ : ∃ rs2, Hid (rs2 = appR rs b) := ⟨_, Lib.hid rfl⟩
  rw [← Hrs2.out] at HP7
  clear hs7 ho7 hk7 Hs6 Ho6 Hk6 HTQ6 HR6 HP5
  go_wp2_with fail
  refine (sync_any p own1 _ sy _ HP7.out.ps.st).mono ?_
  rintro e w8 ⟨rfl, hs8, ho8⟩
  have Hs8 := Lib.hid hs8
  have Ho8 := Lib.hid ho8
  have HTQ8 := Lib.hid (HTQ7.out.keep (S := fun k => k = p) (ho8.chg rfl) (fun i e => by rw [e]; exact Hs2.out.1) (fun g cs hb e => by
    obtain ⟨⟨c1, h1⟩, _⟩ := HP7.out.ps.st.typ
    exact hb.ne_ h1 (by decide) e))
  clear hs8 ho8 HTQ7
  have HR8 := Lib.hid (HP7.out.ref1 Ho8.out)
  go_wp2_with fail
  refine (rsync_any q own2 rs2 sy _ HR8.out).mono ?_
  rintro e w9 ⟨rfl, hs9, ho9⟩
  have HTQ9 := Lib.hid (HTQ8.out.keep (S := fun k => k = q) (ho9.chg rfl) (fun i e => by rw [e]; exact Hr2.out.1) (fun g cs hb e => by
    obtain ⟨⟨c1, h1⟩, _⟩ := HR8.out.typ
    exact hb.ne_ h1 (by decide) e))
  have HP9 := Lib.hid (HP7.out.sync Hs8.out Ho8.out hs9 ho9)
  clear hs9 ho9 Hs8 Ho8 HTQ8 HR8 HP7
  have HOK : Hid (RsOk rs2 (needs rs2)) := Lib.hid HP9.out.ps.rf.rsOk
  obtain ⟨nx, Hnx⟩ : ∃ nx, Hid (nx = rs2.length) := ⟨_, Lib.hid rfl⟩
  have hnx : nx ≤ 16384 := by rw [Hnx.out]; exact HOK.out.rlen
  have H4k : Hid (∀ r ∈ rs2, r.length ≤ 4096) := Lib.hid (fun r hr => (HOK.out.ok r hr).2.2)
  obtain ⟨M, HM⟩ : ∃ M, Hid (M = needs rs2 * 32) := ⟨_, Lib.hid rfl⟩
  have hM8 : M ≤ 524288 := by rw [HM.out]; have := HOK.out.len; omega
  go_wp2_with fail
  refine (records_new Hnx HP9.out.ps.st HOK).mono ?_
  rintro e w10 ⟨Ax, cx, vs, rfl, hx, hv⟩
  have HX := Lib.hid hx
  have HV := Lib.hid hv
  clear hx hv
  go_wp2
  go_loopw [11] (fun i wr => ∃ i' : Nat, i = .int .i64 i' ∧ i' ≤ nx ∧ XR w9 Ax cx nx vs wr) (fun i _ => nx - (intOf i).toNat)
  case atStart => exact ⟨0, rfl, Nat.zero_le _, HX.out⟩
  case round =>
    obtain ⟨i, rfl, hi, hxr⟩ := hrel
    have HXR := Lib.hid hxr
    clear hxr
    by_cases hlt : i < nx
    · obtain ⟨ga, Ai, mi, ci, rfl, hve, hmi⟩ := xr_head HXR HV Hnx H4k hlt
      have HVE := Lib.hid hve
      clear hve
      go_wp2
      go_loopw [12] (fun j wr => ∃ j' : Nat, j = .int .i64 j' ∧ j' ≤ mi ∧ XR w9 (some ⟨ga, 0, none⟩) cx nx vs wr) (fun j _ => mi - (intOf j).toNat)
      case atStart => exact ⟨0, rfl, Nat.zero_le _, HXR.out⟩
      case round =>
        obtain ⟨j, rfl, hj, hxr⟩ := hrel
        have HXJ := Lib.hid hxr
        have y0 := xr_cell HXJ HVE
        clear hxr
        by_cases hlj : j < mi
        · obtain ⟨gj, v, cs, rfl, hlo, hc, hb⟩ := HXJ.out.rows i Ai mi ci HVE.out j hlj
          have hfr := hb.frozen j
          have HLo := Lib.hid hlo
          have HBj := Lib.hid hb
          have HCj := Lib.hid hc
          clear hlo hb
          go_wp2
          go_roundw
          case rel => exact ⟨j + 1, by go_num, by omega, HXJ.out.store HLo.out HBj.out HCj.out⟩
          case measure => simp [intOf]; omega
        · obtain rfl : j = mi := by omega
          go_wp2
          go_roundw
          case rel => exact ⟨i + 1, by go_num, by omega, HXJ.out⟩
          case measure => simp [intOf]; omega
    · obtain rfl : i = nx := by omega
      have HPx := Lib.hid (HP9.out.below HXR.out.bel)
      have HTQx := Lib.hid (HTQ9.out.below HXR.out.bel)
      clear HXR HX HV HP9 HTQ9
      go_wp2_with fail
      refine (bytesR_at HM HPx.out.ps.st).mono ?_
      rintro e w11 ⟨gy, rfl, hgy, hby, hly, hby2⟩
      have HBY := Lib.hid hby
      have HLY := Lib.hid hly
      have HEY := Lib.hid hby2
      have HGY := Lib.hid hgy
      clear hby hly hby2 hgy
      go_wp2
      go_loopw [14] (fun j w12 => ∃ (j' : Nat) (ys : List Int), j = .int .i64 j' ∧ j' ≤ M ∧ ys.length = M ∧ Blk w12 gy 5 (u8s ys).toArray ∧ Below wr.heap.size wr w12) (fun j _ => M - (intOf j).toNat)
      case atStart => exact ⟨0, _, rfl, Nat.zero_le _, HLY.out, HBY.out, HEY.out⟩
      case round =>
        obtain ⟨j, ys, rfl, hj, hys, hyb, hye⟩ := hrel
        have HYs := Lib.hid hys
        have HYb := Lib.hid hyb
        have HYe := Lib.hid hye
        clear hys hyb hye
        by_cases hlj : j < M
        · obtain ⟨v, hfit⟩ := byte_fit HYs HYb hlj
          have hfr := HYb.out.frozen j
          go_wp2
          go_roundw
          case rel => exact ⟨j + 1, ys.set j _, by go_num, by omega, by simp [HYs.out], by rw [← u8s_store]; exact HYb.out.set_ j _, HYe.out.setCell (p := ⟨gy, j, none⟩) HGY.out _⟩
          case measure => simp [intOf]; omega
        · obtain rfl : j = M := by omega
          have HPy := Lib.hid (HPx.out.below HYe.out)
          have HTQy := Lib.hid (HTQx.out.below HYe.out)
          clear HYs HYb HYe HPx HTQx HBY HEY
          go_wp2_with fail
          refine (agree_any _ HPy.out.ps.st HPy.out.ps.rf).mono ?_
          rintro e w13 ⟨rfl, hb13⟩
          have HTQz := Lib.hid (HTQy.out.below hb13)
          have HPz := Lib.hid (HPy.out.below hb13)
          clear hb13 HPy HTQy
          go_wp2_with fail
          refine (agree_any _ HTQz.out.st HTQz.out.rf).mono ?_
          rintro e w14 ⟨rfl, hb14⟩
          have HPw := Lib.hid (HPz.out.below hb14)
          clear hb14 HPz HTQz
          go_wp2_with fail
          refine (awake_any _).mono ?_
          rintro e w15 ⟨rfl, hb15⟩
          have HE15 := Lib.hid hb15
          clear hb15
          go_wp2
          go_ret
          exact ⟨rfl, law_bel Hg HB1 HPw.out.on HE15⟩
end Go.Proofs.Ytabnlnhnefjebaa
