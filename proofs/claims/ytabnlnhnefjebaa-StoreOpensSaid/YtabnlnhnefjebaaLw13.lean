/-
  Chapter 41: the walk of StoreOpens. The memory is that of the given program; no conditions.
-/
import Derived.Test.YtabnlnhnefjebaaLw9
import Derived.Test.YtabnlnhnefjebaaRf12
import Derived.Test.YtabnlnhnefjebaaStA
import Derived.Test.YtabnlnhnefjebaaOpenB
namespace Go.Proofs.Ytabnlnhnefjebaa
open Go.RowKit
set_option linter.unusedVariables false
set_option linter.unusedSimpArgs false
theorem rbytes_at {w : World} {q n : Nat} {own : Option Nat} {rs : List (List Int)} {sy : Nat} {A : Option Addr} {c : Nat} {vs : List Value} {M : Nat} (hn : Hid (rs.length = n)) (hM : Hid (M = needs rs * 32)) (h : Hid (RfV w q own rs sy A c vs)) :
    Calls Try.prog 13 #[.slice A n c] w (fun e w' => ∃ A' c', e = .returned (.slice A' M c') ∧ Own5 w A' M c' (bytes rs) w') := by
  have e := hn.out
  subst e
  have hl := h.out.rlen
  have hle := h.out.len
  rw [hM.out]
  refine (rbytes_any A c rs.length rs vs 0 w (Lib.hid rfl) h.out.row h.out.recs (by omega) (fun r hr => ⟨(h.out.ok r hr).1, by have := (h.out.ok r hr).2.2; omega⟩) (by omega)).mono ?_
  rintro e w' ⟨A', c', rfl, h1, h2⟩
  exact ⟨A', c', rfl, h1, h2⟩
theorem mod_nat (v n : Int) (h : 0 < n) : ∃ j : Nat, Hid (v % n = j) ∧ (j : Int) < n := by
  have h1 := Int.emod_nonneg v (show n ≠ 0 by omega)
  have h2 := Int.emod_lt_of_pos v h
  exact ⟨(v % n).toNat, Lib.hid (by omega), by omega⟩
theorem mod_at {v n : Int} {j : Nat} {w : World} (hv : Hid (InR v)) (hj : Hid (v % n = j)) (h0 : 0 < n) (h1 : n ≤ 1000000) : Calls Try.prog 11 #[.int .i64 v, .int .i64 n] w fun e w' => e = .returned (.int .i64 j) ∧ w = w' := by
  rw [← hj.out]; exact mod_any v n w hv.out.1 hv.out.2 h0 h1
section
variable {w w0 wr w' : World} {A : Option Addr} {c n : Nat} {l : List Int}
theorem Own5.rd (h : Own5 w0 A n c l w) : RdB w w.heap.size A l := rdB_of_own (Lib.hid h.len) h.row
theorem Own5.take (h : Own5 w0 A n c l w) {k : Nat} (hk : k ≤ n) : Own5 w0 A k c (l.take k) w := ⟨by rw [show u8s (l.take k) = (u8s l).take k by simp [u8s, List.map_take]]; exact own_take1 h.row hk, h.bel⟩
theorem open_rd {b : List Int} {R : List (List Int)} (hR : Hid (R = opn b)) (hn : n = b.length) (hr : RdB w w.heap.size A b) (hc : n ≤ c) (hc2 : c ≤ 9223372036854775807) (hb : Hid (byteOk b)) :
    Calls Try.prog 12 #[.slice A n c] w (fun e w' => ∃ p own, e = .returned (.pointer (some ⟨p, 0, none⟩)) ∧ St w' p own (brecs 0 R) (needs R) ∧ Below w.heap.size w w') := by
  refine (open_at (Lib.hid hn) hr hc hc2 hb.out).mono ?_
  rintro e w' ⟨p, own, h1, h2, h3, _⟩
  rw [← hR.out] at h2
  exact ⟨p, own, h1, h2, h3⟩
theorem ropen_rd {b : List Int} {R : List (List Int)} (hR : Hid (R = opn b)) (hn : n = b.length) (hr : RdB w w.heap.size A b) (hc : n ≤ c) (hc2 : c ≤ 9223372036854775807) (hb : Hid (byteOk b)) :
    Calls Try.prog 26 #[.slice A n c] w (fun e w' => ∃ q own, e = .returned (.pointer (some ⟨q, 0, none⟩)) ∧ Rf w' q own R (needs R) ∧ Below w.heap.size w w') := by
  refine (ropen_any A c n b w (Lib.hid hn) hr hc hc2 hb.out).mono ?_
  rintro e w' ⟨q, own, h1, h2, h3, _⟩
  rw [← hR.out] at h2
  exact ⟨q, own, h1, h2, h3⟩
/-- a store beside bytes that are appended to -/
theorem St.beside5 {p : Nat} {own : Option Nat} {B : List (List Int)} {sy : Nat} {base : Nat} {xs : List Value} (h : St w p own B sy) (hr : w.ownsRow base 5 1 (.slice A n c) n xs) (hg : w.grownBy w' (Value.slice A n c).ownBlock) : St w' p own B sy := by
  obtain ⟨⟨cs, h1⟩, h2⟩ := h.typ
  refine h.keep (S := fun k => (Value.slice A n c).ownBlock = some k) (Chg.of_grown hg (fun i _ e => e)) (own_blk_ne hr h1 (by decide)) (fun g e => ?_)
  obtain ⟨c2, hc2⟩ := h2 g e
  exact own_blk_ne hr hc2 (by decide)
theorem own5_app {ws : List Int} {A' : Option Addr} {n' c' : Nat} (h : Own5 w0 A n c l w) (ho : w'.ownsRow w0.heap.size 5 1 (.slice A' n' c') n' (u8s l ++ u8s ws)) (hg : w.grownBy w' (Value.slice A n c).ownBlock) : Own5 w0 A' n' c' (l ++ ws) w' :=
  ⟨by rw [u8s_app]; exact ho, h.bel.trans ((Below.refl w0.heap.size w).grown hg h.bel.size (fun k hk => (h.row.lt k hk).1))⟩
theorem own5_keep (h : Own5 w0 A n c l w) (ho : w'.ownsRow w0.heap.size 5 1 (.slice A n c) n (u8s l)) (hg : w.grownBy w' (Value.slice A n c).ownBlock) : Own5 w0 A n c l w' :=
  ⟨ho, h.bel.trans ((Below.refl w0.heap.size w).grown hg h.bel.size (fun k hk => (h.row.lt k hk).1))⟩
/-- bytes that came in, read later -/
theorem raw_at {A1 : Option Addr} {raw : List Int} (hr : Hid (RdB w w.heap.size A1 raw)) (h0 : Hid (Below w.heap.size w w0)) (h1 : Below w0.heap.size w0 wr) : RdB wr wr.heap.size A1 raw := by
  have h2 := h0.out.trans (h1.mono h0.out.size)
  exact RdB.up (RdB.below hr.out h2) h2.size
end
set_option maxRecDepth 100000 in
set_option maxHeartbeats 1600000 in
theorem storeOpens_long (A : Option Addr) (c n : Nat) (A1 : Option Addr) (c1 m : Nat) (at_ cb cut : Int) (w : World) (hm : 2000 < m) :
    Calls Try.prog 6 #[.slice A n c, .slice A1 m c1, .int .i64 at_, .int .u8 cb, .int .i64 cut] w (RetB true w) := by
  have h1 : 2000 < (m : Int) := by omega
  go_enter Try.func6, Try.ntmps6
  go_wp2_with fail
  refine (awake_any _).mono ?_
  rintro e w1 ⟨rfl, hb⟩
  have HB := Lib.hid hb
  clear hb
  go_wp2
  go_ret
  exact ⟨rfl, HB.out⟩
set_option maxRecDepth 100000 in
set_option maxHeartbeats 3200000 in
theorem storeOpens_walk (A : Option Addr) (c : Nat) (l : List Int) (A1 : Option Addr) (c1 : Nat) (raw : List Int) (at_ cb cut : Int) (w : World) (hr : RdI w w.heap.size A l) (hl : l.length ≤ 9223372036854775807) (_ : ∀ i, i < l.length → InR (at1 l i)) (hr1 : RdB w w.heap.size A1 raw) (hl1 : raw.length ≤ 9223372036854775807) (ha1 : ArgB A1 c1 raw) (hat : InR at_) (hcb : InC cb) (hcut : InR cut) :
    Calls Try.prog 6 #[.slice A l.length c, .slice A1 raw.length c1, .int .i64 at_, .int .u8 cb, .int .i64 cut] w (RetB true w) := by
  by_cases hlong : 2000 < raw.length
  · exact storeOpens_long A c l.length A1 c1 raw.length at_ cb cut w hlong
  have HR := Lib.hid hr
  have HR1 := Lib.hid hr1
  have HA1 := Lib.hid ha1
  have HAt := Lib.hid hat
  have HCb := Lib.hid hcb
  have HCut := Lib.hid hcut
  have HRo := Lib.hid ha1.ok
  obtain ⟨n, Hn⟩ : ∃ n, Hid (n = l.length) := ⟨_, Lib.hid rfl⟩
  obtain ⟨mr, Hmr⟩ : ∃ n, Hid (n = raw.length) := ⟨_, Lib.hid rfl⟩
  have HLe : Hid (l.length ≤ 9223372036854775807) := Lib.hid hl
  obtain ⟨g, Hg⟩ : ∃ g, Hid (g = w.heap.size) := ⟨_, Lib.hid rfl⟩
  have hmr : mr ≤ 2000 := by rw [Hmr.out]; omega
  have hmi : ¬ 2000 < (mr : Int) := by omega
  have hrc : mr ≤ c1 := by rw [Hmr.out]; exact ha1.lc
  have hrc2 : c1 ≤ 9223372036854775807 := ha1.cm
  obtain ⟨i5, hi5, hz50, hz51, hz52⟩ := info_parts row5
  have HI5 := Lib.hid hi5
  have HZ50 := Lib.hid hz50
  have HZ51 := Lib.hid hz51
  have HZ52 := Lib.hid hz52
  rw [← Hn.out, ← Hmr.out]
  clear hr hl hr1 hl1 ha1 hat hcb hcut hlong hi5 hz50 hz51 hz52
  go_enter Try.func6, Try.ntmps6
  go_wp2_with fail
  refine (new_deck Hn Hg HR HLe).mono ?_
  rintro e w1 ⟨rfl, hb1, hd1⟩
  have HB1 := Lib.hid hb1
  have HD1 := Lib.hid hd1
  clear hb1 hd1
  go_wp2_with fail
  refine (play_any g 0 8 _ HD1.out (by decide) (by decide)).mono ?_
  rintro e w2 ⟨p, q, own, own', rs, sy, rfl, hps⟩
  have HP := Lib.hid hps
  clear hps
  have HW2 : Hid (Below w.heap.size w w2) := Lib.hid (only_bel Hg HB1 HP.out.on)
  obtain ⟨A3, c3, vs, hrf⟩ := HP.out.ps.rf
  have HRf := Lib.hid hrf
  have HOK : Hid (RsOk rs sy) := Lib.hid HP.out.ps.rf.rsOk
  obtain ⟨nr, Hnr⟩ : ∃ nr, Hid (rs.length = nr) := ⟨_, Lib.hid rfl⟩
  have x0 : w2.cell? ⟨q, 0, none⟩ = some (.slice A3 nr c3) := by
    have := hrf.box.cell 0
    rw [Hnr.out] at this
    simpa using this
  obtain ⟨M, HM⟩ : ∃ M, Hid (M = needs rs * 32) := ⟨_, Lib.hid rfl⟩
  have hM8 : M ≤ 524288 := by rw [HM.out]; have := hrf.len; omega
  have HBo : Hid (byteOk (bytes rs)) := bytes_ok HOK
  obtain ⟨bs, Hbs⟩ : ∃ bs, Hid (bs = bytes rs) := ⟨_, Lib.hid rfl⟩
  clear hrf
  go_wp2_with fail
  refine (rbytes_at Hnr HM HRf).mono ?_
  rintro e w3 ⟨A4, c4, rfl, ho3⟩
  rw [← Hbs.out] at HBo ho3
  have HO := Lib.hid ho3
  clear ho3 x0
  by_cases hM : 0 < M
  · have hMi : 0 < (M : Int) := by omega
    obtain ⟨j, Hj, hj'⟩ := mod_nat at_ (M : Int) hMi
    have hj : j < M := by omega
    obtain ⟨g4, rfl⟩ := HO.out.addr hM
    obtain ⟨v4, hfit⟩ := HO.out.fit j hj
    have hfr : w3.frozen? ⟨g4, j, none⟩ = false := HO.out.row.frozenAt j
    go_wp2_with fail
    refine (mod_at HAt Hj hMi (by omega)).mono ?_
    rintro e w' ⟨rfl, rfl⟩
    go_upto_region 10 with (fail)
    obtain ⟨w4, Hw4⟩ : ∃ w4, Hid (w4 = w3.setCell ⟨g4, j, none⟩ (.int .u8 cb)) := ⟨_, Lib.hid rfl⟩
    rw [← Hw4.out]
    obtain ⟨l1, Hl1⟩ : ∃ l1, Hid (l1 = bs.set j cb) := ⟨_, Lib.hid rfl⟩
    have HO4 : Hid (Own5 w2 (some ⟨g4, 0, none⟩) M c4 l1 w4) := Lib.hid (by rw [Hw4.out, Hl1.out]; exact HO.out.stored j cb)
    have HBo1 : Hid (byteOk l1) := Lib.hid (by rw [Hl1.out]; exact byteOk_set HBo.out j HCb.out.1 HCb.out.2)
    clear hfit hfr HO Hw4
    obtain ⟨j2, Hj2, hj2'⟩ := mod_nat cut ((M : Int) + 1) (by omega)
    have hj2 : j2 ≤ M := by omega
    obtain ⟨k, Hk⟩ : ∃ k : Nat, Hid ((M : Int) - j2 = k) := ⟨M - j2, Lib.hid (by omega)⟩
    have hkM : k ≤ M := by have := Hk.out; omega
    have HO5 := Lib.hid (HO4.out.take hkM)
    obtain ⟨l2, Hl2⟩ : ∃ l2, Hid (l2 = l1.take k) := ⟨_, Lib.hid rfl⟩
    rw [← Hl2.out] at HO5
    have HBo2 : Hid (byteOk l2) := Lib.hid (by rw [Hl2.out]; exact byteOk_take HBo1.out k)
    have HL2 : Hid (k = l2.length) := Lib.hid HO5.out.len.symm
    have hcap := own_cap HO4.out.row
    have hcap1 : k ≤ c4 := by omega
    have hcap2 := hcap.2
    have hMc : M ≤ c4 := hcap.1
    have HBa : Hid (byteOk (l2 ++ raw)) := Lib.hid (byteOk_app HBo2.out HRo.out)
    have HLa : Hid (k + mr = (l2 ++ raw).length) := Lib.hid (by rw [List.length_append, ← HL2.out, ← Hmr.out])
    obtain ⟨R1, HR1_⟩ : ∃ R, Hid (R = opn l2) := ⟨_, Lib.hid rfl⟩
    obtain ⟨R2, HR2_⟩ : ∃ R, Hid (R = opn raw) := ⟨_, Lib.hid rfl⟩
    obtain ⟨R3, HR3_⟩ : ∃ R, Hid (R = opn (l2 ++ raw)) := ⟨_, Lib.hid rfl⟩
    clear HO4 hcap
    go_wp2_with fail
    refine (mod_at HCut Hj2 (by omega) (by omega)).mono ?_
    rintro e w' ⟨rfl, rfl⟩
    have hsub := Hk.out
    go_wp2_with fail
    clear hsub
    refine (open_rd HR1_ HL2.out HO5.out.rd hcap1 hcap2 HBo2).mono ?_
    rintro e w5 ⟨p5, own5, rfl, ht, hb⟩
    have HT := Lib.hid ht
    have HO := Lib.hid (HO5.out.below hb)
    clear ht hb HO5
    go_wp2_with fail
    refine (ropen_rd HR1_ HL2.out HO.out.rd hcap1 hcap2 HBo2).mono ?_
    rintro e w6 ⟨q6, own6, rfl, hf, hb⟩
    have HF := Lib.hid hf
    have HT := Lib.hid (HT.out.below hb)
    have HO := Lib.hid (HO.out.below hb)
    clear hf hb
    go_wp2_with fail
    refine (agree_any _ HT.out HF.out).mono ?_
    rintro e w7 ⟨rfl, hb⟩
    have HO := Lib.hid (HO.out.below hb)
    clear hb HT HF
    go_wp2_with fail
    refine (open_rd HR2_ Hmr.out (raw_at HR1 HW2 HO.out.bel) hrc hrc2 HRo).mono ?_
    rintro e w8 ⟨p8, own8, rfl, ht, hb⟩
    have HT := Lib.hid ht
    have HO := Lib.hid (HO.out.below hb)
    clear ht hb
    go_wp2_with fail
    refine (ropen_rd HR2_ Hmr.out (raw_at HR1 HW2 HO.out.bel) hrc hrc2 HRo).mono ?_
    rintro e w9 ⟨q9, own9, rfl, hf, hb⟩
    have HF := Lib.hid hf
    have HT := Lib.hid (HT.out.below hb)
    have HO := Lib.hid (HO.out.below hb)
    clear hf hb
    go_wp2_with fail
    refine (agree_any _ HT.out HF.out).mono ?_
    rintro e w10 ⟨rfl, hb⟩
    have HO := Lib.hid (HO.out.below hb)
    clear hb HT HF
    have HSr : Hid (Src w10 1 A1 mr (u8s raw)) := Lib.hid (by rw [Hmr.out]; exact (raw_at HR1 HW2 HO.out.bel).src)
    have HNil : Hid (A1 = none → c1 = 0) := Lib.hid (fun e => (HA1.out.nil e).2)
    go_wp2_with (at_builtin; refine wpList_appk (wanted_yes rfl rfl rfl rfl) (.tmp 68) (.tmp 69) 23 rfl w2.heap.size 5 i5 (.int .u8 0) 1 und23 HI5.out HZ50.out HZ51.out HZ52.out rfl _ k c4 (u8s l2) rfl HO.out.row A1 mr c1 (u8s raw) rfl HSr.out HNil.out (u8s_one _) ?_ ?_ ?_ ?_)
    · unfold maxLen; omega
    · omega
    · exact HO.out.bel.size
    intro A11 c11 w11 Ho11 Hk11 Hg11
    have HA := Lib.hid (own5_app HO.out Ho11.out Hg11.out)
    have HO := Lib.hid (own5_keep HO.out Hk11.out Hg11.out)
    have hcapA := own_cap HA.out.row
    have hcapA2 := hcapA.2
    have hcapA1 := hcapA.1
    clear Ho11 Hk11 Hg11 HSr hcapA
    go_wp2_with fail
    refine (open_rd HR3_ HLa.out HA.out.rd hcapA1 hcapA2 HBa).mono ?_
    rintro e w12 ⟨p12, own12, rfl, ht, hb⟩
    have HT := Lib.hid ht
    have HO := Lib.hid (HO.out.below hb)
    clear ht hb HA hcapA1 hcapA2
    have HSr : Hid (Src w12 1 A1 mr (u8s raw)) := Lib.hid (by rw [Hmr.out]; exact (raw_at HR1 HW2 HO.out.bel).src)
    go_wp2_with (at_builtin; refine wpList_appk (wanted_yes rfl rfl rfl rfl) (.tmp 72) (.tmp 73) 23 rfl w2.heap.size 5 i5 (.int .u8 0) 1 und23 HI5.out HZ50.out HZ51.out HZ52.out rfl _ k c4 (u8s l2) rfl HO.out.row A1 mr c1 (u8s raw) rfl HSr.out HNil.out (u8s_one _) ?_ ?_ ?_ ?_)
    · unfold maxLen; omega
    · omega
    · exact HO.out.bel.size
    intro A13 c13 w13 Ho13 Hk13 Hg13
    have HT := Lib.hid (HT.out.beside5 HO.out.row Hg13.out)
    have HA := Lib.hid (own5_app HO.out Ho13.out Hg13.out)
    have hcapA := own_cap HA.out.row
    have hcapA2 := hcapA.2
    have hcapA1 := hcapA.1
    clear Ho13 Hk13 Hg13 HSr hcapA HO
    go_wp2_with fail
    refine (ropen_rd HR3_ HLa.out HA.out.rd hcapA1 hcapA2 HBa).mono ?_
    rintro e w14 ⟨q14, own14, rfl, hf, hb⟩
    have HF := Lib.hid hf
    have HT := Lib.hid (HT.out.below hb)
    have HA := Lib.hid (HA.out.below hb)
    clear hf hb hcapA1 hcapA2
    go_wp2_with fail
    refine (agree_any _ HT.out HF.out).mono ?_
    rintro e w15 ⟨rfl, hb⟩
    have HA := Lib.hid (HA.out.below hb)
    clear hb HT HF
    go_wp2_with fail
    refine (awake_any _).mono ?_
    rintro e w16 ⟨rfl, hb⟩
    have HA := Lib.hid (HA.out.below hb)
    clear hb
    go_wp2
    go_ret
    exact ⟨rfl, HW2.out.trans (HA.out.bel.mono HW2.out.size)⟩
  · have hMi : ¬ 0 < (M : Int) := by omega
    go_upto_region 10 with (fail)
    obtain ⟨w4, Hw4⟩ : ∃ w4, Hid (w4 = w3) := ⟨_, Lib.hid rfl⟩
    rw [← Hw4.out]
    obtain ⟨l1, Hl1⟩ : ∃ l1, Hid (l1 = bs) := ⟨_, Lib.hid rfl⟩
    have HO4 : Hid (Own5 w2 A4 M c4 l1 w4) := Lib.hid (by rw [Hw4.out, Hl1.out]; exact HO.out)
    have HBo1 : Hid (byteOk l1) := Lib.hid (by rw [Hl1.out]; exact HBo.out)
    clear HO Hw4
    obtain ⟨j2, Hj2, hj2'⟩ := mod_nat cut ((M : Int) + 1) (by omega)
    have hj2 : j2 ≤ M := by omega
    obtain ⟨k, Hk⟩ : ∃ k : Nat, Hid ((M : Int) - j2 = k) := ⟨M - j2, Lib.hid (by omega)⟩
    have hkM : k ≤ M := by have := Hk.out; omega
    have HO5 := Lib.hid (HO4.out.take hkM)
    obtain ⟨l2, Hl2⟩ : ∃ l2, Hid (l2 = l1.take k) := ⟨_, Lib.hid rfl⟩
    rw [← Hl2.out] at HO5
    have HBo2 : Hid (byteOk l2) := Lib.hid (by rw [Hl2.out]; exact byteOk_take HBo1.out k)
    have HL2 : Hid (k = l2.length) := Lib.hid HO5.out.len.symm
    have hcap := own_cap HO4.out.row
    have hcap1 : k ≤ c4 := by omega
    have hcap2 := hcap.2
    have hMc : M ≤ c4 := hcap.1
    have HBa : Hid (byteOk (l2 ++ raw)) := Lib.hid (byteOk_app HBo2.out HRo.out)
    have HLa : Hid (k + mr = (l2 ++ raw).length) := Lib.hid (by rw [List.length_append, ← HL2.out, ← Hmr.out])
    obtain ⟨R1, HR1_⟩ : ∃ R, Hid (R = opn l2) := ⟨_, Lib.hid rfl⟩
    obtain ⟨R2, HR2_⟩ : ∃ R, Hid (R = opn raw) := ⟨_, Lib.hid rfl⟩
    obtain ⟨R3, HR3_⟩ : ∃ R, Hid (R = opn (l2 ++ raw)) := ⟨_, Lib.hid rfl⟩
    clear HO4 hcap
    go_wp2_with fail
    refine (mod_at HCut Hj2 (by omega) (by omega)).mono ?_
    rintro e w' ⟨rfl, rfl⟩
    have hsub := Hk.out
    go_wp2_with fail
    clear hsub
    refine (open_rd HR1_ HL2.out HO5.out.rd hcap1 hcap2 HBo2).mono ?_
    rintro e w5 ⟨p5, own5, rfl, ht, hb⟩
    have HT := Lib.hid ht
    have HO := Lib.hid (HO5.out.below hb)
    clear ht hb HO5
    go_wp2_with fail
    refine (ropen_rd HR1_ HL2.out HO.out.rd hcap1 hcap2 HBo2).mono ?_
    rintro e w6 ⟨q6, own6, rfl, hf, hb⟩
    have HF := Lib.hid hf
    have HT := Lib.hid (HT.out.below hb)
    have HO := Lib.hid (HO.out.below hb)
    clear hf hb
    go_wp2_with fail
    refine (agree_any _ HT.out HF.out).mono ?_
    rintro e w7 ⟨rfl, hb⟩
    have HO := Lib.hid (HO.out.below hb)
    clear hb HT HF
    go_wp2_with fail
    refine (open_rd HR2_ Hmr.out (raw_at HR1 HW2 HO.out.bel) hrc hrc2 HRo).mono ?_
    rintro e w8 ⟨p8, own8, rfl, ht, hb⟩
    have HT := Lib.hid ht
    have HO := Lib.hid (HO.out.below hb)
    clear ht hb
    go_wp2_with fail
    refine (ropen_rd HR2_ Hmr.out (raw_at HR1 HW2 HO.out.bel) hrc hrc2 HRo).mono ?_
    rintro e w9 ⟨q9, own9, rfl, hf, hb⟩
    have HF := Lib.hid hf
    have HT := Lib.hid (HT.out.below hb)
    have HO := Lib.hid (HO.out.below hb)
    clear hf hb
    go_wp2_with fail
    refine (agree_any _ HT.out HF.out).mono ?_
    rintro e w10 ⟨rfl, hb⟩
    have HO := Lib.hid (HO.out.below hb)
    clear hb HT HF
    have HSr : Hid (Src w10 1 A1 mr (u8s raw)) := Lib.hid (by rw [Hmr.out]; exact (raw_at HR1 HW2 HO.out.bel).src)
    have HNil : Hid (A1 = none → c1 = 0) := Lib.hid (fun e => (HA1.out.nil e).2)
    go_wp2_with (at_builtin; refine wpList_appk (wanted_yes rfl rfl rfl rfl) (.tmp 68) (.tmp 69) 23 rfl w2.heap.size 5 i5 (.int .u8 0) 1 und23 HI5.out HZ50.out HZ51.out HZ52.out rfl _ k c4 (u8s l2) rfl HO.out.row A1 mr c1 (u8s raw) rfl HSr.out HNil.out (u8s_one _) ?_ ?_ ?_ ?_)
    · unfold maxLen; omega
    · omega
    · exact HO.out.bel.size
    intro A11 c11 w11 Ho11 Hk11 Hg11
    have HA := Lib.hid (own5_app HO.out Ho11.out Hg11.out)
    have HO := Lib.hid (own5_keep HO.out Hk11.out Hg11.out)
    have hcapA := own_cap HA.out.row
    have hcapA2 := hcapA.2
    have hcapA1 := hcapA.1
    clear Ho11 Hk11 Hg11 HSr hcapA
    go_wp2_with fail
    refine (open_rd HR3_ HLa.out HA.out.rd hcapA1 hcapA2 HBa).mono ?_
    rintro e w12 ⟨p12, own12, rfl, ht, hb⟩
    have HT := Lib.hid ht
    have HO := Lib.hid (HO.out.below hb)
    clear ht hb HA hcapA1 hcapA2
    have HSr : Hid (Src w12 1 A1 mr (u8s raw)) := Lib.hid (by rw [Hmr.out]; exact (raw_at HR1 HW2 HO.out.bel).src)
    go_wp2_with (at_builtin; refine wpList_appk (wanted_yes rfl rfl rfl rfl) (.tmp 72) (.tmp 73) 23 rfl w2.heap.size 5 i5 (.int .u8 0) 1 und23 HI5.out HZ50.out HZ51.out HZ52.out rfl _ k c4 (u8s l2) rfl HO.out.row A1 mr c1 (u8s raw) rfl HSr.out HNil.out (u8s_one _) ?_ ?_ ?_ ?_)
    · unfold maxLen; omega
    · omega
    · exact HO.out.bel.size
    intro A13 c13 w13 Ho13 Hk13 Hg13
    have HT := Lib.hid (HT.out.beside5 HO.out.row Hg13.out)
    have HA := Lib.hid (own5_app HO.out Ho13.out Hg13.out)
    have hcapA := own_cap HA.out.row
    have hcapA2 := hcapA.2
    have hcapA1 := hcapA.1
    clear Ho13 Hk13 Hg13 HSr hcapA HO
    go_wp2_with fail
    refine (ropen_rd HR3_ HLa.out HA.out.rd hcapA1 hcapA2 HBa).mono ?_
    rintro e w14 ⟨q14, own14, rfl, hf, hb⟩
    have HF := Lib.hid hf
    have HT := Lib.hid (HT.out.below hb)
    have HA := Lib.hid (HA.out.below hb)
    clear hf hb hcapA1 hcapA2
    go_wp2_with fail
    refine (agree_any _ HT.out HF.out).mono ?_
    rintro e w15 ⟨rfl, hb⟩
    have HA := Lib.hid (HA.out.below hb)
    clear hb HT HF
    go_wp2_with fail
    refine (awake_any _).mono ?_
    rintro e w16 ⟨rfl, hb⟩
    have HA := Lib.hid (HA.out.below hb)
    clear hb
    go_wp2
    go_ret
    exact ⟨rfl, HW2.out.trans (HA.out.bel.mono HW2.out.size)⟩
end Go.Proofs.Ytabnlnhnefjebaa
