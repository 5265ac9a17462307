/-
  Chapter 41: the walk of StoreAll. The memory is that of the given program; no conditions.
-/
import Derived.Test.YtabnlnhnefjebaaLw9
namespace Go.Proofs.Ytabnlnhnefjebaa
open Go.RowKit
set_option linter.unusedVariables false
set_option linter.unusedSimpArgs false
theorem wbit_all (j : Nat) : wbit 18446744073709551615 j = true := by
  have h : ∀ i, i < 64 → (bits .and .u64 (18446744073709551615 / 2 ^ i) 1 == 1) = true := by decide
  exact h (j % 64) (Nat.mod_lt _ (by decide))
theorem opn_all {rs : List (List Int)} {sy : Nat} (h : RsOk rs sy) (torn : Int) : opn (crashB (wbit 18446744073709551615) (keepOf torn) sy (brecs 0 rs)).flatten = rs := by
  obtain ⟨m, h1, h2, h3, h4, h5⟩ := opn_crash rs h.ok h.len (wbit 18446744073709551615) (keepOf torn) sy (keepOf_le torn) h.syn
  rw [h5, h4 wbit_all, dur_full, List.take_length]
theorem opn_none {rs : List (List Int)} {sy : Nat} (h : RsOk rs sy) (torn : Int) : opn (crashB (wbit 0) (keepOf torn) sy (brecs 0 rs)).flatten = rs.take (dur rs sy) := by
  obtain ⟨m, h1, h2, h3, h4, h5⟩ := opn_crash rs h.ok h.len (wbit 0) (keepOf torn) sy (keepOf_le torn) h.syn
  rcases h3 with h3 | h3
  · rw [wbit_zero] at h3; cases h3
  · rw [h5, h3]
theorem crashB_sync (rs : List (List Int)) (bit : Nat → Bool) (keep : Nat) : (crashB bit keep (needs rs) (brecs 0 rs)).flatten = bytes rs := by
  unfold crashB bytes
  rw [List.take_of_length_le (by rw [brecs_len]; exact Nat.le_refl _), List.drop_of_length_le (by rw [brecs_len]; exact Nat.le_refl _)]
  simp [crashL]
set_option maxRecDepth 100000 in
set_option maxHeartbeats 1600000 in
theorem all_region {ops : Array Oper} {Q : Exit → Act → World → Prop} {a : Act} {w : World} (id : Nat) {y0 y1 y2 y3 y4 y5 y6 y7 y8 y9 y10 y11 y12 y13 y14 y15 y16 y17 y18 y19 : TypeId} {q0 q1 q2 q3 q4 q5 q6 q7 q8 q9 q10 q11 q12 q13 q14 q15 q16 q17 q18 q19 : String} {f0 f1 f2 f3 f4 f5 f6 f7 f8 f9 f10 f11 f12 f13 f14 f15 f16 f17 f18 f19 : Array Edge} (hok : regOk ops [(0, true), (1, true), (2, true), (5, true), (3, false), (4, true), (6, false), (7, true), (8, true), (9, true), (10, true), (12, true), (11, false), (13, false), (14, true), (15, true), (16, true), (17, false), (18, true), (19, true)] = true)
    (h0 : ops[0]? = some ⟨(some 54), .move (.tmp 8), y0, q0, f0, none⟩) (h1 : ops[1]? = some ⟨(some 55), .move (.tmp 1), y1, q1, f1, none⟩) (h2 : ops[2]? = some ⟨(some 56), .move (.tmp 2), y2, q2, f2, none⟩) (h3 : ops[3]? = some ⟨(some 57), .call { callee := .value (.func 23), args := #[.tmp 54, .tmp 55, .tmp 56], argTypes := #[25, 37, 3] }, y3, q3, f3, none⟩) (h4 : ops[4]? = some ⟨(some 58), .convert 23 9 (.tmp 57), y4, q4, f4, none⟩) (h5 : ops[5]? = some ⟨(some 59), .move (.tmp 8), y5, q5, f5, none⟩) (h6 : ops[6]? = some ⟨(some 60), .call { callee := .value (.func 30), args := #[.tmp 59], argTypes := #[25] }, y6, q6, f6, none⟩) (h7 : ops[7]? = some ⟨(some 61), .convert 23 9 (.tmp 60), y7, q7, f7, none⟩) (h8 : ops[8]? = some ⟨(some 62), .binOp .eql 9 (.tmp 58) (.tmp 61) 9, y8, q8, f8, none⟩) (h9 : ops[9]? = some ⟨(some 63), .move (.tmp 62), y9, q9, f9, none⟩) (h10 : ops[10]? = some ⟨(some 64), .move (.tmp 8), y10, q10, f10, (some (9, true))⟩) (h11 : ops[11]? = some ⟨(some 65), .call { callee := .value (.func 28), args := #[.tmp 64], argTypes := #[25] }, y11, q11, f11, (some (9, true))⟩) (h12 : ops[12]? = some ⟨(some 66), .move (.tmp 8), y12, q12, f12, (some (9, true))⟩) (h13 : ops[13]? = some ⟨(some 67), .call { callee := .value (.func 16), args := #[.tmp 66], argTypes := #[25] }, y13, q13, f13, (some (9, true))⟩) (h14 : ops[14]? = some ⟨(some 68), .binOp .eql 3 (.tmp 65) (.tmp 67) 3, y14, q14, f14, (some (9, true))⟩) (h15 : ops[15]? = some ⟨(some 69), .pick (.tmp 63) (.tmp 68) (.const (.bool false)), y15, q15, f15, none⟩) (h16 : ops[16]? = some ⟨(some 70), .move (.tmp 69), y16, q16, f16, none⟩) (h17 : ops[17]? = some ⟨(some 71), .call { callee := .value (.func 17), args := #[], argTypes := #[] }, y17, q17, f17, (some (16, true))⟩) (h18 : ops[18]? = some ⟨(some 72), .pick (.tmp 70) (.tmp 71) (.const (.bool false)), y18, q18, f18, none⟩) (h19 : ops[19]? = some ⟨(some 6), .assign (.tmp 72), y19, q19, f19, none⟩)
    (hsz : 73 ≤ a.tmps.size) (hQ : ∀ c a (d : Nat) v w, Q (.panic c) (a.put (some d) v) w → Q (.panic c) a w) {p : Nat} {own : Option Nat} {rs : List (List Int)} {sy : Nat} (e8 : a.eval (.tmp 8) = (.pointer (some ⟨p, 0, none⟩)))
    (which torn : Int) (kw0 : 0 ≤ which) (kw1 : which ≤ 18446744073709551615) (e1 : a.eval (.tmp 1) = .int .u64 which) (e2 : a.eval (.tmp 2) = .int .i64 torn)
    (hs : St w p own (brecs 0 rs) (needs rs)) (hr : Hid (RsOk rs sy)) (K : ∀ z0 z1 z2 z3 z4 z5 z6 z7 z8 z9 z10 z11 z12 z13 z14 z15 z16 z17 z18 w', Bel w w' → Q .normal ((((((((((((((((((((a.put (some 54) z0).put (some 55) z1).put (some 56) z2).put (some 59) z3).put (some 57) z4).put (some 58) z5).put (some 60) z6).put (some 61) z7).put (some 62) z8).put (some 63) z9).put (some 64) z10).put (some 66) z11).put (some 65) z12).put (some 67) z13).put (some 68) z14).put (some 69) z15).put (some 70) z16).put (some 71) z17).put (some 72) z18).put (some 6) (.bool true)) w') : (Code.region id ops true).wp Try.prog Q a w := by
  have hnl : needs rs ≤ 16384 := hr.out.len
  have cSt : ∀ W, Bel w W → St W p own (brecs 0 rs) (needs rs) := fun W h => hs.below h
  have cS : ∀ W, Bel w W → Calls Try.prog 23 #[(.pointer (some ⟨p, 0, none⟩)), .int .u64 which, .int .i64 torn] W (NewRow 5 1 (needs rs * 32) (u8s (bytes rs)) W) := fun W h =>
    (crashR_at (Lib.hid rfl) (Lib.hid (crashB_sync rs _ _).symm) kw0 kw1 (cSt W h)).mono fun e w' h2 => newBlk_row h2 (by omega)
  have cB : ∀ W, Bel w W → Calls Try.prog 30 #[(.pointer (some ⟨p, 0, none⟩))] W (NewRow 5 1 (needs rs * 32) (u8s (bytes rs)) W) := fun W h =>
    (bytesR_at (Lib.hid rfl) (cSt W h)).mono fun e w' h2 => newBlk_row h2 (by omega)
  have cSy : ∀ W, Bel w W → Calls Try.prog 28 #[(.pointer (some ⟨p, 0, none⟩))] W (RetI (rs.length : Int) W) := fun W h => synced_at (Lib.hid (dur_full rs).symm) (cSt W h) hr
  have cLe : ∀ W, Bel w W → Calls Try.prog 16 #[(.pointer (some ⟨p, 0, none⟩))] W (RetI (rs.length : Int) W) := fun W h => len_at (Lib.hid rfl) (cSt W h) hr
  have hB0 := Bel.drew w
  refine wp_region_WB (by kernel_rfl) hok hQ ?_
  refine b_take (i := 0) (d := some 54) (v := (.pointer (some ⟨p, 0, none⟩))) h0 (wanted_none rfl) rfl (fun W hW => x_move rfl e8) ?_
  refine b_take (i := 1) (d := some 55) (v := (.int .u64 which)) h1 (wanted_none rfl) rfl (fun W hW => x_move rfl (pO (by decide) e1)) ?_
  refine b_take (i := 2) (d := some 56) (v := (.int .i64 torn)) h2 (wanted_none rfl) rfl (fun W hW => x_move rfl (pO (by decide) (pO (by decide) e2))) ?_
  refine b_take (i := 5) (d := some 59) (v := (.pointer (some ⟨p, 0, none⟩))) h5 (wanted_none rfl) rfl (fun W hW => x_move rfl (pO (by decide) (pO (by decide) (pO (by decide) e8)))) ?_
  refine b_call (i := 3) (d := some 57) h3 (wanted_none rfl) rfl (x_call3 rfl (pO (by decide) (pO (by decide) (pO (by decide) (pS hsz (by decide))))) (pO (by decide) (pO (by decide) (pS (pZ hsz) (by decide)))) (pO (by decide) (pS (pZ (pZ hsz)) (by decide))) (cfx23 _ _)) (Calls.mono (cS _ hB0) ?_)
  rintro e w1 ⟨A1, c1, rfl, ho1, hb1⟩
  refine ⟨_, rfl, hb1, ?_⟩
  have hB1 := Bel.trans hB0 hb1
  refine b_take (i := 4) (d := some 58) (v := (.string (strOfNums (bytes rs)))) h4 (wanted_none rfl) rfl (fun W hW => x_conv rfl (pS (pZ (pZ (pZ (pZ hsz)))) (by decide)) (str_own ((own_below ho1 (Lib.hid hW)).out))) ?_
  refine b_call (i := 6) (d := some 60) h6 (wanted_none rfl) rfl (x_call1 rfl (pO (by decide) (pO (by decide) (pS (pZ (pZ (pZ hsz))) (by decide)))) (cfx30 _ _)) (Calls.mono (cB _ hB1) ?_)
  rintro e w2 ⟨A2, c2, rfl, ho2, hb2⟩
  refine ⟨_, rfl, hb2, ?_⟩
  have hB2 := Bel.trans hB1 hb2
  refine b_take (i := 7) (d := some 61) (v := (.string (strOfNums (bytes rs)))) h7 (wanted_none rfl) rfl (fun W hW => x_conv rfl (pS (pZ (pZ (pZ (pZ (pZ (pZ hsz)))))) (by decide)) (str_own ((own_below ho2 (Lib.hid hW)).out))) ?_
  refine b_take (i := 8) (d := some 62) (v := (.bool true)) h8 (wanted_none rfl) rfl (fun W hW => x_eqls rfl (pO (by decide) (pO (by decide) (pS (pZ (pZ (pZ (pZ (pZ hsz))))) (by decide)))) (pS (pZ (pZ (pZ (pZ (pZ (pZ (pZ hsz))))))) (by decide))) ?_
  refine b_take (i := 9) (d := some 63) (v := (.bool true)) h9 (wanted_none rfl) rfl (fun W hW => x_move rfl (pS (pZ (pZ (pZ (pZ (pZ (pZ (pZ (pZ hsz)))))))) (by decide))) ?_
  refine b_take (i := 10) (d := some 64) (v := (.pointer (some ⟨p, 0, none⟩))) h10 (wanted_yes rfl h9 rfl (pS (pZ (pZ (pZ (pZ (pZ (pZ (pZ (pZ (pZ hsz))))))))) (by decide))) rfl (fun W hW => x_move rfl (pO (by decide) (pO (by decide) (pO (by decide) (pO (by decide) (pO (by decide) (pO (by decide) (pO (by decide) (pO (by decide) (pO (by decide) (pO (by decide) e8))))))))))) ?_
  refine b_take (i := 12) (d := some 66) (v := (.pointer (some ⟨p, 0, none⟩))) h12 (wanted_yes rfl h9 rfl (pO (by decide) (pS (pZ (pZ (pZ (pZ (pZ (pZ (pZ (pZ (pZ hsz))))))))) (by decide)))) rfl (fun W hW => x_move rfl (pO (by decide) (pO (by decide) (pO (by decide) (pO (by decide) (pO (by decide) (pO (by decide) (pO (by decide) (pO (by decide) (pO (by decide) (pO (by decide) (pO (by decide) e8)))))))))))) ?_
  refine b_call (i := 11) (d := some 65) h11 (wanted_yes rfl h9 rfl (pO (by decide) (pO (by decide) (pS (pZ (pZ (pZ (pZ (pZ (pZ (pZ (pZ (pZ hsz))))))))) (by decide))))) rfl (x_call1 rfl (pO (by decide) (pS (pZ (pZ (pZ (pZ (pZ (pZ (pZ (pZ (pZ (pZ hsz)))))))))) (by decide))) (cfx28 _ _)) (Calls.mono (cSy _ hB2) ?_)
  rintro e w3 ⟨rfl, hb3⟩
  refine ⟨_, rfl, hb3, ?_⟩
  have hB3 := Bel.trans hB2 hb3
  refine b_call (i := 13) (d := some 67) h13 (wanted_yes rfl h9 rfl (pO (by decide) (pO (by decide) (pO (by decide) (pS (pZ (pZ (pZ (pZ (pZ (pZ (pZ (pZ (pZ hsz))))))))) (by decide)))))) rfl (x_call1 rfl (pO (by decide) (pS (pZ (pZ (pZ (pZ (pZ (pZ (pZ (pZ (pZ (pZ (pZ hsz))))))))))) (by decide))) (cfx16 _ _)) (Calls.mono (cLe _ hB3) ?_)
  rintro e w4 ⟨rfl, hb4⟩
  refine ⟨_, rfl, hb4, ?_⟩
  have hB4 := Bel.trans hB3 hb4
  refine b_take (i := 14) (d := some 68) (v := (.bool true)) h14 (wanted_yes rfl h9 rfl (pO (by decide) (pO (by decide) (pO (by decide) (pO (by decide) (pS (pZ (pZ (pZ (pZ (pZ (pZ (pZ (pZ (pZ hsz))))))))) (by decide))))))) rfl (fun W hW => x_bin rfl (pO (by decide) (pS (pZ (pZ (pZ (pZ (pZ (pZ (pZ (pZ (pZ (pZ (pZ (pZ hsz)))))))))))) (by decide))) (pS (pZ (pZ (pZ (pZ (pZ (pZ (pZ (pZ (pZ (pZ (pZ (pZ (pZ hsz))))))))))))) (by decide)) (eql_int W _)) ?_
  refine b_take (i := 15) (d := some 69) (v := (.bool true)) h15 (wanted_none rfl) rfl (fun W hW => x_pickT rfl (pO (by decide) (pO (by decide) (pO (by decide) (pO (by decide) (pO (by decide) (pS (pZ (pZ (pZ (pZ (pZ (pZ (pZ (pZ (pZ hsz))))))))) (by decide))))))) (pS (pZ (pZ (pZ (pZ (pZ (pZ (pZ (pZ (pZ (pZ (pZ (pZ (pZ (pZ hsz)))))))))))))) (by decide))) ?_
  refine b_take (i := 16) (d := some 70) (v := (.bool true)) h16 (wanted_none rfl) rfl (fun W hW => x_move rfl (pS (pZ (pZ (pZ (pZ (pZ (pZ (pZ (pZ (pZ (pZ (pZ (pZ (pZ (pZ (pZ hsz))))))))))))))) (by decide))) ?_
  refine b_call (i := 17) (d := some 71) h17 (wanted_yes rfl h16 rfl (pS (pZ (pZ (pZ (pZ (pZ (pZ (pZ (pZ (pZ (pZ (pZ (pZ (pZ (pZ (pZ (pZ hsz)))))))))))))))) (by decide))) rfl (x_call0 rfl  (cfx17 _ _)) (Calls.mono (awake_any _) ?_)
  rintro e w5 ⟨rfl, hb5⟩
  refine ⟨_, rfl, hb5, ?_⟩
  have hB5 := Bel.trans hB4 hb5
  refine b_take (i := 18) (d := some 72) (v := (.bool true)) h18 (wanted_none rfl) rfl (fun W hW => x_pickT rfl (pO (by decide) (pS (pZ (pZ (pZ (pZ (pZ (pZ (pZ (pZ (pZ (pZ (pZ (pZ (pZ (pZ (pZ (pZ hsz)))))))))))))))) (by decide))) (pS (pZ (pZ (pZ (pZ (pZ (pZ (pZ (pZ (pZ (pZ (pZ (pZ (pZ (pZ (pZ (pZ (pZ hsz))))))))))))))))) (by decide))) ?_
  refine b_take (i := 19) (d := some 6) (v := (.bool true)) h19 (wanted_none rfl) rfl (fun W hW => x_assign rfl (pS (pZ (pZ (pZ (pZ (pZ (pZ (pZ (pZ (pZ (pZ (pZ (pZ (pZ (pZ (pZ (pZ (pZ (pZ hsz)))))))))))))))))) (by decide))) ?_
  refine b_done ?_
  exact K _ _ _ _ _ _ _ _ _ _ _ _ _ _ _ _ _ _ _ _ hB5
theorem sync_at {w : World} {p : Nat} {own : Option Nat} {rs : List (List Int)} {sy : Nat} (h : St w p own (brecs 0 rs) sy) : Calls Try.prog 34 #[.pointer (some ⟨p, 0, none⟩)] w (fun e w' => e = .returned (.tuple #[]) ∧ St w' p own (brecs 0 rs) (needs rs) ∧ Only p w w') := by
  have h1 := sync_any p own _ sy w h
  unfold SyncPost at h1
  rwa [brecs_len] at h1
theorem law_bel2 {w w1 w2 w3 w4 w5 : World} {g p : Nat} (hg : Hid (g = w.heap.size)) (h1 : Hid (Below w.heap.size w w1)) (h2 : Only g w1 w2) (h3 : Bel w2 w3) (hp : w1.heap.size ≤ p) (h4 : Hid (Only p w3 w4)) (h5 : Bel w4 w5) : Below w.heap.size w w5 := by
  have k3 := law_bel hg h1 h2 (Lib.hid h3)
  have k4 := k3.trans (Only.below h4.out k3.size (Nat.le_trans h1.out.size hp))
  exact k4.trans (Below.mono h5 k4.size)
set_option maxRecDepth 100000 in
set_option maxHeartbeats 3200000 in
theorem storeAll_walk (A : Option Addr) (c : Nat) (l : List Int) (which torn : Int) (w : World) (hr : RdI w w.heap.size A l) (hl : l.length ≤ 9223372036854775807) (_ : ∀ i, i < l.length → InR (at1 l i)) (hw : InU which) (ht : InR torn) :
    Calls Try.prog 9 #[.slice A l.length c, .int .u64 which, .int .i64 torn] w (RetB true w) := by
  have HR := Lib.hid hr
  have HWh := Lib.hid hw
  obtain ⟨n, Hn⟩ : ∃ n, Hid (n = l.length) := ⟨_, Lib.hid rfl⟩
  have HLe : Hid (l.length ≤ 9223372036854775807) := Lib.hid hl
  obtain ⟨g, Hg⟩ : ∃ g, Hid (g = w.heap.size) := ⟨_, Lib.hid rfl⟩
  rw [← Hn.out]
  clear hr hl hw ht
  go_enter Try.func9, Try.ntmps9
  go_wp2_with fail
  refine (new_deck Hn Hg HR HLe).mono ?_
  rintro e w1 ⟨rfl, hb1, hd1⟩
  have HB1 := Lib.hid hb1
  have HD1 := Lib.hid hd1
  clear hb1 hd1
  go_wp2_with fail
  refine (play_any g 0 8 _ HD1.out (by decide) (by decide)).mono ?_
  rintro e w2 ⟨p, q, own, own', rs, sy, rfl, hps⟩
  have HP := Lib.hid hps
  clear hps
  have HOK : Hid (RsOk rs sy) := Lib.hid HP.out.ps.rf.rsOk
  have HS2 : Hid (St w2 p own (brecs 0 rs) sy) := Lib.hid HP.out.ps.st
  obtain ⟨m, Hm⟩ : ∃ m, Hid (m = needs rs * 32) := ⟨_, Lib.hid rfl⟩
  have HM8 : Hid (m ≤ 100000000) := Lib.hid (by have := HOK.out.len; have := Hm.out; omega)
  obtain ⟨ca, Hca⟩ : ∃ ca, Hid (ca = (crashB (wbit 18446744073709551615) (keepOf torn) sy (brecs 0 rs)).flatten) := ⟨_, Lib.hid rfl⟩
  obtain ⟨cb, Hcb⟩ : ∃ cb, Hid (cb = (crashB (wbit 0) (keepOf torn) sy (brecs 0 rs)).flatten) := ⟨_, Lib.hid rfl⟩
  have HRa : Hid (rs = opn ca) := Lib.hid (by rw [Hca.out]; exact (opn_all HOK.out torn).symm)
  obtain ⟨Rb, HRb⟩ : ∃ R, Hid (R = opn cb) := ⟨_, Lib.hid rfl⟩
  obtain ⟨nr, Hnr⟩ : ∃ nr, Hid (nr = rs.length) := ⟨_, Lib.hid rfl⟩
  obtain ⟨d, Hd⟩ : ∃ d, Hid (d = dur rs sy) := ⟨_, Lib.hid rfl⟩
  have Hdb : Hid (d = Rb.length) := Lib.hid (by rw [HRb.out, Hcb.out, opn_none HOK.out torn, Hd.out, List.length_take]; have := dur_le rs sy; omega)
  have HnrL : Hid (nr ≤ 100000) := Lib.hid (by rw [Hnr.out]; have := HOK.out.rlen; omega)
  go_wp2_with fail
  refine (crashR_at Hm Hca (by decide) (by decide) HS2.out).mono ?_
  rintro e w3 ⟨gc, rfl, hgc, hb3, hl3, hbel3⟩
  have HB3 := Lib.hid hb3
  have HL3 := Lib.hid hl3
  have HE3 := Lib.hid hbel3
  have HS3 := Lib.hid (HS2.out.below hbel3)
  clear hb3 hl3 hbel3 hgc
  go_wp2_with fail
  refine (openR_at HRa HL3.out HB3.out (crash_bytes_ok Hca HOK) HM8.out).mono ?_
  rintro e w4 ⟨pa, owna, rfl, ht4, hbel4, _, _, hok4⟩
  have HT4 := Lib.hid ht4
  have HE4 := Lib.hid hbel4
  have HS4 := Lib.hid (HS3.out.below hbel4)
  clear ht4 hbel4 hok4
  go_wp2_with fail
  refine (crashR_at Hm Hcb (by decide) (by decide) HS4.out).mono ?_
  rintro e w5 ⟨gd, rfl, hgd, hb5, hl5, hbel5⟩
  have HB5 := Lib.hid hb5
  have HL5 := Lib.hid hl5
  have HE5 := Lib.hid hbel5
  have HS5 := Lib.hid (HS4.out.below hbel5)
  have HT5 := Lib.hid (HT4.out.below hbel5)
  clear hb5 hl5 hbel5 hgd
  go_wp2_with fail
  refine (openR_at HRb HL5.out HB5.out (crash_bytes_ok Hcb HOK) HM8.out).mono ?_
  rintro e w6 ⟨pb, ownb, rfl, hu6, hbel6, _, _, hok6⟩
  have HU6 := Lib.hid hu6
  have HE6 := Lib.hid hbel6
  have HS6 := Lib.hid (HS5.out.below hbel6)
  have HT6 := Lib.hid (HT5.out.below hbel6)
  have HOK6 := Lib.hid hok6
  clear hu6 hbel6 hok6
  go_wp2_with fail
  refine (records_at Hnr HT6.out HOK).mono ?_
  rintro e w7 ⟨A7, c7, rfl, ha7, hbel7⟩
  have HA7 := Lib.hid ha7
  have HE7 := Lib.hid hbel7
  have HS7 := Lib.hid (HS6.out.below hbel7)
  have HU7 := Lib.hid (HU6.out.below hbel7)
  clear ha7 hbel7
  go_wp2_with fail
  refine (records_at Hnr HS7.out HOK).mono ?_
  rintro e w8 ⟨A8, c8, rfl, ha8, hbel8⟩
  have HA8 := Lib.hid ha8
  have HA8b := Lib.hid (HA7.out.below hbel8)
  have HE8 := Lib.hid hbel8
  have HS8 := Lib.hid (HS7.out.below hbel8)
  have HU8 := Lib.hid (HU7.out.below hbel8)
  clear ha8 hbel8
  go_wp2_with fail
  refine (same_at HA8b.out HA8.out HnrL.out).mono ?_
  rintro e w9 ⟨rfl, hbel9⟩
  have HE9 := Lib.hid hbel9
  have HS9 := Lib.hid (HS8.out.below hbel9)
  have HU9 := Lib.hid (HU8.out.below hbel9)
  clear hbel9
  go_wp2_with fail
  refine (len_at Hdb HU9.out HOK6).mono ?_
  rintro e w10 ⟨rfl, hbel10⟩
  have HE10 := Lib.hid hbel10
  have HS10 := Lib.hid (HS9.out.below hbel10)
  clear hbel10
  go_wp2_with fail
  refine (synced_at Hd HS10.out HOK).mono ?_
  rintro e w11 ⟨rfl, hbel11⟩
  have HE11 := Lib.hid hbel11
  have HS11 := Lib.hid (HS10.out.below hbel11)
  clear hbel11
  go_wp2_with fail
  refine (sync_at HS11.out).mono ?_
  rintro e w12 ⟨rfl, hs12, ho12⟩
  have HS12 := Lib.hid hs12
  have HO12 := Lib.hid ho12
  clear hs12 ho12
  go_upto_region 10 with (fail)
  refine all_region 10 (by kernel_rfl) rfl rfl rfl rfl rfl rfl rfl rfl rfl rfl rfl rfl rfl rfl rfl rfl rfl rfl rfl rfl (show 73 ≤ 73 from by decide) (fun _ _ _ _ _ h => h) rfl which torn HWh.out.1 HWh.out.2 rfl rfl HS12.out HOK ?_
  intro z0 z1 z2 z3 z4 z5 z6 z7 z8 z9 z10 z11 z12 z13 z14 z15 z16 z17 z18 w' hb
  have HB := Lib.hid hb
  clear hb
  simp only [Act.put, List.setIfInBounds_toArray, List.set_cons_zero, List.set_cons_succ]
  go_wp2
  go_ret
  exact ⟨rfl, law_bel2 Hg HB1 HP.out.on (Bel.trans (Bel.trans (Bel.trans (Bel.trans (Bel.trans (Bel.trans (Bel.trans (Bel.trans HE3.out HE4.out) HE5.out) HE6.out) HE7.out) HE8.out) HE9.out) HE10.out) HE11.out) HP.out.ps.pge HO12 HB.out⟩
end Go.Proofs.Ytabnlnhnefjebaa
