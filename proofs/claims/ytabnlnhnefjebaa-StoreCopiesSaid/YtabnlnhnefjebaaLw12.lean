/-
  Chapter 41: the walk of StoreReopens. The memory is that of the given program; no conditions.
-/
import Derived.Test.YtabnlnhnefjebaaLw9
namespace Go.Proofs.Ytabnlnhnefjebaa
open Go.RowKit
set_option linter.unusedVariables false
set_option linter.unusedSimpArgs false
theorem neq_int (w : World) (m : Int) : (binOp .neq 3 (.int .i64 m) (.int .i64 m)).run Try.prog w = .ok (.bool false) w := by
  simp [binOp, go_sem, und3]
theorem eql_ptr25 {o : Oper} {a : Act} {w : World} {x : Operand} {ad : Addr} {t' : TypeId} (ho : o.op = .binOp .eql 25 x (.const (.pointer none)) t') (hx : a.eval x = .pointer (some ad)) : (execOp a.eval o).run Try.prog w = .ok (.value (.bool false)) w := by
  have he : (binOp .eql 25 (.pointer (some ad)) (.pointer none)).run Try.prog w = .ok (.bool false) w := by kernel_rfl
  have hg : (eqGuard .eql 25 x (.const (.pointer none)) (.pointer (some ad)) (.pointer none)).run Try.prog w = .ok () w := by simp [eqGuard]
  have hc : a.eval (.const (.pointer none)) = .pointer none := rfl
  unfold execOp
  simp only [ho, hx, hc, Sem.run_bind, hg, he, Sem.run_pure, Result.andThen_ok]
set_option maxRecDepth 100000 in
set_option maxHeartbeats 1600000 in
theorem reopens_region {ops : Array Oper} {Q : Exit → Act → World → Prop} {a : Act} {w : World} (id : Nat) {y0 y1 y2 y3 y4 y5 y6 y7 y8 y9 y10 y11 y12 y13 y14 y15 y16 y17 y18 y19 y20 y21 y22 y23 y24 y25 : TypeId} {q0 q1 q2 q3 q4 q5 q6 q7 q8 q9 q10 q11 q12 q13 q14 q15 q16 q17 q18 q19 q20 q21 q22 q23 q24 q25 : String} {f0 f1 f2 f3 f4 f5 f6 f7 f8 f9 f10 f11 f12 f13 f14 f15 f16 f17 f18 f19 f20 f21 f22 f23 f24 f25 : Array Edge} (hok : regOk ops [(0, true), (1, true), (2, true), (3, true), (5, true), (4, false), (6, false), (7, false), (8, true), (9, true), (10, true), (11, true), (14, true), (12, false), (13, true), (15, false), (16, true), (17, true), (18, true), (19, true), (20, true), (22, true), (21, false), (23, false), (24, true), (25, true)] = true)
    (h0 : ops[0]? = some ⟨(some 22), .move (.tmp 7), y0, q0, f0, none⟩) (h1 : ops[1]? = some ⟨(some 23), .binOp .eql 25 (.tmp 22) (.const (.pointer none)) 25, y1, q1, f1, none⟩) (h2 : ops[2]? = some ⟨(some 24), .move (.tmp 23), y2, q2, f2, none⟩) (h3 : ops[3]? = some ⟨(some 25), .move (.tmp 7), y3, q3, f3, (some (2, false))⟩) (h4 : ops[4]? = some ⟨(some 26), .call { callee := .value (.func 27), args := #[.tmp 25], argTypes := #[25] }, y4, q4, f4, (some (2, false))⟩) (h5 : ops[5]? = some ⟨(some 27), .move (.tmp 4), y5, q5, f5, (some (2, false))⟩) (h6 : ops[6]? = some ⟨(some 28), .call { callee := .value (.func 27), args := #[.tmp 27], argTypes := #[25] }, y6, q6, f6, (some (2, false))⟩) (h7 : ops[7]? = some ⟨(some 29), .call { callee := .value (.func 29), args := #[.tmp 26, .tmp 28], argTypes := #[24, 24] }, y7, q7, f7, (some (2, false))⟩) (h8 : ops[8]? = some ⟨(some 30), .unOp .not 4 (.tmp 29), y8, q8, f8, (some (2, false))⟩) (h9 : ops[9]? = some ⟨(some 31), .pick (.tmp 24) (.const (.bool true)) (.tmp 30), y9, q9, f9, none⟩) (h10 : ops[10]? = some ⟨(some 32), .move (.tmp 31), y10, q10, f10, none⟩) (h11 : ops[11]? = some ⟨(some 33), .move (.tmp 7), y11, q11, f11, (some (10, false))⟩) (h12 : ops[12]? = some ⟨(some 34), .call { callee := .value (.func 30), args := #[.tmp 33], argTypes := #[25] }, y12, q12, f12, (some (10, false))⟩) (h13 : ops[13]? = some ⟨(some 35), .convert 23 9 (.tmp 34), y13, q13, f13, (some (10, false))⟩) (h14 : ops[14]? = some ⟨(some 36), .move (.tmp 4), y14, q14, f14, (some (10, false))⟩) (h15 : ops[15]? = some ⟨(some 37), .call { callee := .value (.func 30), args := #[.tmp 36], argTypes := #[25] }, y15, q15, f15, (some (10, false))⟩) (h16 : ops[16]? = some ⟨(some 38), .convert 23 9 (.tmp 37), y16, q16, f16, (some (10, false))⟩) (h17 : ops[17]? = some ⟨(some 39), .binOp .neq 9 (.tmp 35) (.tmp 38) 9, y17, q17, f17, (some (10, false))⟩) (h18 : ops[18]? = some ⟨(some 40), .pick (.tmp 32) (.const (.bool true)) (.tmp 39), y18, q18, f18, none⟩) (h19 : ops[19]? = some ⟨(some 41), .move (.tmp 40), y19, q19, f19, none⟩) (h20 : ops[20]? = some ⟨(some 42), .move (.tmp 7), y20, q20, f20, (some (19, false))⟩) (h21 : ops[21]? = some ⟨(some 43), .call { callee := .value (.func 28), args := #[.tmp 42], argTypes := #[25] }, y21, q21, f21, (some (19, false))⟩) (h22 : ops[22]? = some ⟨(some 44), .move (.tmp 4), y22, q22, f22, (some (19, false))⟩) (h23 : ops[23]? = some ⟨(some 45), .call { callee := .value (.func 16), args := #[.tmp 44], argTypes := #[25] }, y23, q23, f23, (some (19, false))⟩) (h24 : ops[24]? = some ⟨(some 46), .binOp .neq 3 (.tmp 43) (.tmp 45) 3, y24, q24, f24, (some (19, false))⟩) (h25 : ops[25]? = some ⟨(some 47), .pick (.tmp 41) (.const (.bool true)) (.tmp 46), y25, q25, f25, none⟩)
    (hsz : 67 ≤ a.tmps.size) (hQ : ∀ c a (d : Nat) v w, Q (.panic c) (a.put (some d) v) w → Q (.panic c) a w) {p pt : Nat} {own ownt : Option Nat} {rs : List (List Int)} {sy : Nat} (e4 : a.eval (.tmp 4) = (.pointer (some ⟨p, 0, none⟩))) (e7 : a.eval (.tmp 7) = (.pointer (some ⟨pt, 0, none⟩)))
    (hs : St w p own (brecs 0 rs) sy) (ht : St w pt ownt (brecs 0 rs) (needs rs)) (hr : Hid (RsOk rs sy)) (K : ∀ z0 z1 z2 z3 z4 z5 z6 z7 z8 z9 z10 z11 z12 z13 z14 z15 z16 z17 z18 z19 z20 z21 z22 z23 z24 w', Bel w w' → Q .normal ((((((((((((((((((((((((((a.put (some 22) z0).put (some 23) z1).put (some 24) z2).put (some 25) z3).put (some 27) z4).put (some 26) z5).put (some 28) z6).put (some 29) z7).put (some 30) z8).put (some 31) z9).put (some 32) z10).put (some 33) z11).put (some 36) z12).put (some 34) z13).put (some 35) z14).put (some 37) z15).put (some 38) z16).put (some 39) z17).put (some 40) z18).put (some 41) z19).put (some 42) z20).put (some 44) z21).put (some 43) z22).put (some 45) z23).put (some 46) z24).put (some 47) (.bool false)) w') : (Code.region id ops true).wp Try.prog Q a w := by
  have hnl : needs rs ≤ 16384 := hr.out.len
  have hrl := hr.out.rlen
  have cS : ∀ W, Bel w W → St W p own (brecs 0 rs) sy := fun W h => hs.below h
  have cT : ∀ W, Bel w W → St W pt ownt (brecs 0 rs) (needs rs) := fun W h => ht.below h
  have cRe : ∀ W {p own sy'}, St W p own (brecs 0 rs) sy' → Calls Try.prog 27 #[.pointer (some ⟨p, 0, none⟩)] W (fun e w' => ∃ A c, e = .returned (.slice A rs.length c) ∧ RecN w' A c rs.length rs ∧ Below W.heap.size W w') := fun W p own sy' h => records_at (Lib.hid rfl) h hr
  have cB : ∀ W {p own sy'}, St W p own (brecs 0 rs) sy' → Calls Try.prog 30 #[(.pointer (some ⟨p, 0, none⟩))] W (NewRow 5 1 (needs rs * 32) (u8s (bytes rs)) W) := fun W p own sy' h =>
    (bytesR_at (Lib.hid rfl) h).mono fun e w' h2 => newBlk_row h2 (by omega)
  have hB0 := Bel.drew w
  refine wp_region_WB (by kernel_rfl) hok hQ ?_
  refine b_take (i := 0) (d := some 22) (v := (.pointer (some ⟨pt, 0, none⟩))) h0 (wanted_none rfl) rfl (fun W hW => x_move rfl e7) ?_
  refine b_take (i := 1) (d := some 23) (v := (.bool false)) h1 (wanted_none rfl) rfl (fun W hW => eql_ptr25 rfl (pS hsz (by decide))) ?_
  refine b_take (i := 2) (d := some 24) (v := (.bool false)) h2 (wanted_none rfl) rfl (fun W hW => x_move rfl (pS (pZ hsz) (by decide))) ?_
  refine b_take (i := 3) (d := some 25) (v := (.pointer (some ⟨pt, 0, none⟩))) h3 (wanted_yes rfl h2 rfl (pS (pZ (pZ hsz)) (by decide))) rfl (fun W hW => x_move rfl (pO (by decide) (pO (by decide) (pO (by decide) e7)))) ?_
  refine b_take (i := 5) (d := some 27) (v := (.pointer (some ⟨p, 0, none⟩))) h5 (wanted_yes rfl h2 rfl (pO (by decide) (pS (pZ (pZ hsz)) (by decide)))) rfl (fun W hW => x_move rfl (pO (by decide) (pO (by decide) (pO (by decide) (pO (by decide) e4))))) ?_
  refine b_call (i := 4) (d := some 26) h4 (wanted_yes rfl h2 rfl (pO (by decide) (pO (by decide) (pS (pZ (pZ hsz)) (by decide))))) rfl (x_call1 rfl (pO (by decide) (pS (pZ (pZ (pZ hsz))) (by decide))) (cfx27 _ _)) (Calls.mono (cRe _ (cT _ hB0)) ?_)
  rintro e w1 ⟨A1, c1, rfl, ho1, hb1⟩
  refine ⟨_, rfl, hb1, ?_⟩
  have hB1 := Bel.trans hB0 hb1
  refine b_call (i := 6) (d := some 28) h6 (wanted_yes rfl h2 rfl (pO (by decide) (pO (by decide) (pO (by decide) (pS (pZ (pZ hsz)) (by decide)))))) rfl (x_call1 rfl (pO (by decide) (pS (pZ (pZ (pZ (pZ hsz)))) (by decide))) (cfx27 _ _)) (Calls.mono (cRe _ (cS _ hB1)) ?_)
  rintro e w2 ⟨A2, c2, rfl, ho2, hb2⟩
  refine ⟨_, rfl, hb2, ?_⟩
  have hB2 := Bel.trans hB1 hb2
  refine b_call (i := 7) (d := some 29) h7 (wanted_yes rfl h2 rfl (pO (by decide) (pO (by decide) (pO (by decide) (pO (by decide) (pS (pZ (pZ hsz)) (by decide))))))) rfl (x_call2 rfl (pO (by decide) (pS (pZ (pZ (pZ (pZ (pZ hsz))))) (by decide))) (pS (pZ (pZ (pZ (pZ (pZ (pZ hsz)))))) (by decide)) (cfx29 _ _)) (Calls.mono (same_at (ho1.below hb2) ho2 (by omega)) ?_)
  rintro e w3 ⟨rfl, hb3⟩
  refine ⟨_, rfl, hb3, ?_⟩
  have hB3 := Bel.trans hB2 hb3
  refine b_take (i := 8) (d := some 30) (v := (.bool false)) h8 (wanted_yes rfl h2 rfl (pO (by decide) (pO (by decide) (pO (by decide) (pO (by decide) (pO (by decide) (pS (pZ (pZ hsz)) (by decide)))))))) rfl (fun W hW => x_not rfl (pS (pZ (pZ (pZ (pZ (pZ (pZ (pZ hsz))))))) (by decide))) ?_
  refine b_take (i := 9) (d := some 31) (v := (.bool false)) h9 (wanted_none rfl) rfl (fun W hW => x_pickF rfl (pO (by decide) (pO (by decide) (pO (by decide) (pO (by decide) (pO (by decide) (pO (by decide) (pS (pZ (pZ hsz)) (by decide)))))))) (pS (pZ (pZ (pZ (pZ (pZ (pZ (pZ (pZ hsz)))))))) (by decide))) ?_
  refine b_take (i := 10) (d := some 32) (v := (.bool false)) h10 (wanted_none rfl) rfl (fun W hW => x_move rfl (pS (pZ (pZ (pZ (pZ (pZ (pZ (pZ (pZ (pZ hsz))))))))) (by decide))) ?_
  refine b_take (i := 11) (d := some 33) (v := (.pointer (some ⟨pt, 0, none⟩))) h11 (wanted_yes rfl h10 rfl (pS (pZ (pZ (pZ (pZ (pZ (pZ (pZ (pZ (pZ (pZ hsz)))))))))) (by decide))) rfl (fun W hW => x_move rfl (pO (by decide) (pO (by decide) (pO (by decide) (pO (by decide) (pO (by decide) (pO (by decide) (pO (by decide) (pO (by decide) (pO (by decide) (pO (by decide) (pO (by decide) e7)))))))))))) ?_
  refine b_take (i := 14) (d := some 36) (v := (.pointer (some ⟨p, 0, none⟩))) h14 (wanted_yes rfl h10 rfl (pO (by decide) (pS (pZ (pZ (pZ (pZ (pZ (pZ (pZ (pZ (pZ (pZ hsz)))))))))) (by decide)))) rfl (fun W hW => x_move rfl (pO (by decide) (pO (by decide) (pO (by decide) (pO (by decide) (pO (by decide) (pO (by decide) (pO (by decide) (pO (by decide) (pO (by decide) (pO (by decide) (pO (by decide) (pO (by decide) e4))))))))))))) ?_
  refine b_call (i := 12) (d := some 34) h12 (wanted_yes rfl h10 rfl (pO (by decide) (pO (by decide) (pS (pZ (pZ (pZ (pZ (pZ (pZ (pZ (pZ (pZ (pZ hsz)))))))))) (by decide))))) rfl (x_call1 rfl (pO (by decide) (pS (pZ (pZ (pZ (pZ (pZ (pZ (pZ (pZ (pZ (pZ (pZ hsz))))))))))) (by decide))) (cfx30 _ _)) (Calls.mono (cB _ (cT _ hB3)) ?_)
  rintro e w4 ⟨A4, c4, rfl, ho4, hb4⟩
  refine ⟨_, rfl, hb4, ?_⟩
  have hB4 := Bel.trans hB3 hb4
  refine b_take (i := 13) (d := some 35) (v := (.string (strOfNums (bytes rs)))) h13 (wanted_yes rfl h10 rfl (pO (by decide) (pO (by decide) (pO (by decide) (pS (pZ (pZ (pZ (pZ (pZ (pZ (pZ (pZ (pZ (pZ hsz)))))))))) (by decide)))))) rfl (fun W hW => x_conv rfl (pS (pZ (pZ (pZ (pZ (pZ (pZ (pZ (pZ (pZ (pZ (pZ (pZ (pZ hsz))))))))))))) (by decide)) (str_own ((own_below ho4 (Lib.hid hW)).out))) ?_
  refine b_call (i := 15) (d := some 37) h15 (wanted_yes rfl h10 rfl (pO (by decide) (pO (by decide) (pO (by decide) (pO (by decide) (pS (pZ (pZ (pZ (pZ (pZ (pZ (pZ (pZ (pZ (pZ hsz)))))))))) (by decide))))))) rfl (x_call1 rfl (pO (by decide) (pO (by decide) (pS (pZ (pZ (pZ (pZ (pZ (pZ (pZ (pZ (pZ (pZ (pZ (pZ hsz)))))))))))) (by decide)))) (cfx30 _ _)) (Calls.mono (cB _ (cS _ hB4)) ?_)
  rintro e w5 ⟨A5, c5, rfl, ho5, hb5⟩
  refine ⟨_, rfl, hb5, ?_⟩
  have hB5 := Bel.trans hB4 hb5
  refine b_take (i := 16) (d := some 38) (v := (.string (strOfNums (bytes rs)))) h16 (wanted_yes rfl h10 rfl (pO (by decide) (pO (by decide) (pO (by decide) (pO (by decide) (pO (by decide) (pS (pZ (pZ (pZ (pZ (pZ (pZ (pZ (pZ (pZ (pZ hsz)))))))))) (by decide)))))))) rfl (fun W hW => x_conv rfl (pS (pZ (pZ (pZ (pZ (pZ (pZ (pZ (pZ (pZ (pZ (pZ (pZ (pZ (pZ (pZ hsz))))))))))))))) (by decide)) (str_own ((own_below ho5 (Lib.hid hW)).out))) ?_
  refine b_take (i := 17) (d := some 39) (v := (.bool false)) h17 (wanted_yes rfl h10 rfl (pO (by decide) (pO (by decide) (pO (by decide) (pO (by decide) (pO (by decide) (pO (by decide) (pS (pZ (pZ (pZ (pZ (pZ (pZ (pZ (pZ (pZ (pZ hsz)))))))))) (by decide))))))))) rfl (fun W hW => x_neqs rfl (pO (by decide) (pO (by decide) (pS (pZ (pZ (pZ (pZ (pZ (pZ (pZ (pZ (pZ (pZ (pZ (pZ (pZ (pZ hsz)))))))))))))) (by decide)))) (pS (pZ (pZ (pZ (pZ (pZ (pZ (pZ (pZ (pZ (pZ (pZ (pZ (pZ (pZ (pZ (pZ hsz)))))))))))))))) (by decide))) ?_
  refine b_take (i := 18) (d := some 40) (v := (.bool false)) h18 (wanted_none rfl) rfl (fun W hW => x_pickF rfl (pO (by decide) (pO (by decide) (pO (by decide) (pO (by decide) (pO (by decide) (pO (by decide) (pO (by decide) (pS (pZ (pZ (pZ (pZ (pZ (pZ (pZ (pZ (pZ (pZ hsz)))))))))) (by decide))))))))) (pS (pZ (pZ (pZ (pZ (pZ (pZ (pZ (pZ (pZ (pZ (pZ (pZ (pZ (pZ (pZ (pZ (pZ hsz))))))))))))))))) (by decide))) ?_
  refine b_take (i := 19) (d := some 41) (v := (.bool false)) h19 (wanted_none rfl) rfl (fun W hW => x_move rfl (pS (pZ (pZ (pZ (pZ (pZ (pZ (pZ (pZ (pZ (pZ (pZ (pZ (pZ (pZ (pZ (pZ (pZ (pZ hsz)))))))))))))))))) (by decide))) ?_
  refine b_take (i := 20) (d := some 42) (v := (.pointer (some ⟨pt, 0, none⟩))) h20 (wanted_yes rfl h19 rfl (pS (pZ (pZ (pZ (pZ (pZ (pZ (pZ (pZ (pZ (pZ (pZ (pZ (pZ (pZ (pZ (pZ (pZ (pZ (pZ hsz))))))))))))))))))) (by decide))) rfl (fun W hW => x_move rfl (pO (by decide) (pO (by decide) (pO (by decide) (pO (by decide) (pO (by decide) (pO (by decide) (pO (by decide) (pO (by decide) (pO (by decide) (pO (by decide) (pO (by decide) (pO (by decide) (pO (by decide) (pO (by decide) (pO (by decide) (pO (by decide) (pO (by decide) (pO (by decide) (pO (by decide) (pO (by decide) e7))))))))))))))))))))) ?_
  refine b_take (i := 22) (d := some 44) (v := (.pointer (some ⟨p, 0, none⟩))) h22 (wanted_yes rfl h19 rfl (pO (by decide) (pS (pZ (pZ (pZ (pZ (pZ (pZ (pZ (pZ (pZ (pZ (pZ (pZ (pZ (pZ (pZ (pZ (pZ (pZ (pZ hsz))))))))))))))))))) (by decide)))) rfl (fun W hW => x_move rfl (pO (by decide) (pO (by decide) (pO (by decide) (pO (by decide) (pO (by decide) (pO (by decide) (pO (by decide) (pO (by decide) (pO (by decide) (pO (by decide) (pO (by decide) (pO (by decide) (pO (by decide) (pO (by decide) (pO (by decide) (pO (by decide) (pO (by decide) (pO (by decide) (pO (by decide) (pO (by decide) (pO (by decide) e4)))))))))))))))))))))) ?_
  refine b_call (i := 21) (d := some 43) h21 (wanted_yes rfl h19 rfl (pO (by decide) (pO (by decide) (pS (pZ (pZ (pZ (pZ (pZ (pZ (pZ (pZ (pZ (pZ (pZ (pZ (pZ (pZ (pZ (pZ (pZ (pZ (pZ hsz))))))))))))))))))) (by decide))))) rfl (x_call1 rfl (pO (by decide) (pS (pZ (pZ (pZ (pZ (pZ (pZ (pZ (pZ (pZ (pZ (pZ (pZ (pZ (pZ (pZ (pZ (pZ (pZ (pZ (pZ hsz)))))))))))))))))))) (by decide))) (cfx28 _ _)) (Calls.mono (synced_at (Lib.hid (dur_full rs).symm) (cT _ hB5) hr) ?_)
  rintro e w6 ⟨rfl, hb6⟩
  refine ⟨_, rfl, hb6, ?_⟩
  have hB6 := Bel.trans hB5 hb6
  refine b_call (i := 23) (d := some 45) h23 (wanted_yes rfl h19 rfl (pO (by decide) (pO (by decide) (pO (by decide) (pS (pZ (pZ (pZ (pZ (pZ (pZ (pZ (pZ (pZ (pZ (pZ (pZ (pZ (pZ (pZ (pZ (pZ (pZ (pZ hsz))))))))))))))))))) (by decide)))))) rfl (x_call1 rfl (pO (by decide) (pS (pZ (pZ (pZ (pZ (pZ (pZ (pZ (pZ (pZ (pZ (pZ (pZ (pZ (pZ (pZ (pZ (pZ (pZ (pZ (pZ (pZ hsz))))))))))))))))))))) (by decide))) (cfx16 _ _)) (Calls.mono (len_at (Lib.hid rfl) (cS _ hB6) hr) ?_)
  rintro e w7 ⟨rfl, hb7⟩
  refine ⟨_, rfl, hb7, ?_⟩
  have hB7 := Bel.trans hB6 hb7
  refine b_take (i := 24) (d := some 46) (v := (.bool false)) h24 (wanted_yes rfl h19 rfl (pO (by decide) (pO (by decide) (pO (by decide) (pO (by decide) (pS (pZ (pZ (pZ (pZ (pZ (pZ (pZ (pZ (pZ (pZ (pZ (pZ (pZ (pZ (pZ (pZ (pZ (pZ (pZ hsz))))))))))))))))))) (by decide))))))) rfl (fun W hW => x_bin rfl (pO (by decide) (pS (pZ (pZ (pZ (pZ (pZ (pZ (pZ (pZ (pZ (pZ (pZ (pZ (pZ (pZ (pZ (pZ (pZ (pZ (pZ (pZ (pZ (pZ hsz)))))))))))))))))))))) (by decide))) (pS (pZ (pZ (pZ (pZ (pZ (pZ (pZ (pZ (pZ (pZ (pZ (pZ (pZ (pZ (pZ (pZ (pZ (pZ (pZ (pZ (pZ (pZ (pZ hsz))))))))))))))))))))))) (by decide)) (neq_int W _)) ?_
  refine b_take (i := 25) (d := some 47) (v := (.bool false)) h25 (wanted_none rfl) rfl (fun W hW => x_pickF rfl (pO (by decide) (pO (by decide) (pO (by decide) (pO (by decide) (pO (by decide) (pS (pZ (pZ (pZ (pZ (pZ (pZ (pZ (pZ (pZ (pZ (pZ (pZ (pZ (pZ (pZ (pZ (pZ (pZ (pZ hsz))))))))))))))))))) (by decide))))))) (pS (pZ (pZ (pZ (pZ (pZ (pZ (pZ (pZ (pZ (pZ (pZ (pZ (pZ (pZ (pZ (pZ (pZ (pZ (pZ (pZ (pZ (pZ (pZ (pZ hsz)))))))))))))))))))))))) (by decide))) ?_
  refine b_done ?_
  exact K _ _ _ _ _ _ _ _ _ _ _ _ _ _ _ _ _ _ _ _ _ _ _ _ _ _ hB7
theorem St.drawn {w w' : World} {g p : Nat} {own : Option Nat} {B : List (List Int)} {sy : Nat} {N : Int} (h : St w p own B sy) (hD : Deck w g N) (k : Only g w w') : St w' p own B sy := by
  obtain ⟨⟨cs, h1⟩, h2⟩ := h.typ
  obtain ⟨A, c, l, kk, hb, _⟩ := hD
  have hc : Chg (fun k => k = g) w w' := k.chg rfl
  refine h.keep hc (fun e => h1.ne_ hb (by decide) e) (fun g' e e' => ?_)
  obtain ⟨c2, hc2⟩ := h2 g' e
  exact hc2.ne_ hb (by decide) e'
/-- the law's state where the program's store is another one -/
theorem PL.other {w wr w' : World} {g : Nat} {N : Int} {p q pt : Nat} {own own' ownt : Option Nat} {rs : List (List Int)} {sy : Nat} (h : PL w g N p q own own' rs sy wr) (ht : St wr pt ownt (brecs 0 rs) (needs rs)) (hp : w.heap.size ≤ pt) (ho : ∀ k, ownt = some k → w.heap.size ≤ k)
    (h2 : Rf w' q own' rs (needs rs)) (k2 : Only q wr w') : PL w g N pt q ownt own' rs (needs rs) w' := by
  have hl := h.ps.lt
  have hq := h.ps.qge
  exact ⟨⟨h.ps.deck.chg (k2.chg (S := fun k => k = q) rfl) (fun i hi e => by omega), ht.besideRf h.ps.rf (k2.chg (.inl rfl)), h2, h.ps.lt, hp, h.ps.qge, ho, h.ps.oge'⟩, only_chg h.on (k2.chg (S := fun k => k = q) rfl) (fun i hi e => by omega)⟩
set_option maxRecDepth 100000 in
set_option maxHeartbeats 3200000 in
theorem storeReopens_walk (A : Option Addr) (c : Nat) (l : List Int) (w : World) (hr : RdI w w.heap.size A l) (hl : l.length ≤ 9223372036854775807) (_ : ∀ i, i < l.length → InR (at1 l i)) :
    Calls Try.prog 8 #[.slice A l.length c] w (RetB true w) := by
  have HR := Lib.hid hr
  obtain ⟨n, Hn⟩ : ∃ n, Hid (n = l.length) := ⟨_, Lib.hid rfl⟩
  have HLe : Hid (l.length ≤ 9223372036854775807) := Lib.hid hl
  obtain ⟨g, Hg⟩ : ∃ g, Hid (g = w.heap.size) := ⟨_, Lib.hid rfl⟩
  rw [← Hn.out]
  clear hr hl
  go_enter Try.func8, Try.ntmps8
  go_wp2_with fail
  refine (new_deck Hn Hg HR HLe).mono ?_
  rintro e w1 ⟨rfl, hb1, hd1⟩
  have HB1 := Lib.hid hb1
  have HD1 := Lib.hid hd1
  clear hb1 hd1
  go_wp2_with fail
  refine (play_any g 0 6 _ HD1.out (by decide) (by decide)).mono ?_
  rintro e w2 ⟨p, q, own, own', rs, sy, rfl, hps⟩
  have HP := Lib.hid hps
  clear hps
  have HOK : Hid (RsOk rs sy) := Lib.hid HP.out.ps.rf.rsOk
  have HS2 : Hid (St w2 p own (brecs 0 rs) sy) := Lib.hid HP.out.ps.st
  have HZ2 : Hid (w1.heap.size ≤ w2.heap.size) := Lib.hid HP.out.on.size
  obtain ⟨m, Hm⟩ : ∃ m, Hid (m = needs rs * 32) := ⟨_, Lib.hid rfl⟩
  have HM8 : Hid (m ≤ 100000000) := Lib.hid (by have := HOK.out.len; have := Hm.out; omega)
  obtain ⟨ca, Hca⟩ : ∃ ca, Hid (ca = bytes rs) := ⟨_, Lib.hid rfl⟩
  have HCo : Hid (byteOk ca) := Lib.hid (by rw [Hca.out]; exact (bytes_ok HOK).out)
  have HRa : Hid (rs = opn ca) := Lib.hid (by rw [Hca.out]; exact (opn_bytes rs HOK.out.ok HOK.out.len).symm)
  go_wp2_with fail
  refine (bytesC_at Hm Hca HS2.out).mono ?_
  rintro e w3 ⟨gc, rfl, hgc, hb3, hl3, hbel3⟩
  have HB3 := Lib.hid hb3
  have HL3 := Lib.hid hl3
  have HE3 := Lib.hid hbel3
  have HS3 := Lib.hid (HS2.out.below hbel3)
  clear hb3 hl3 hbel3 hgc
  go_wp2_with fail
  refine (openR_at HRa HL3.out HB3.out HCo HM8.out).mono ?_
  rintro e w4 ⟨pt, ownt, rfl, ht4, hbel4, hp4, ho4, hok4⟩
  have HT4 := Lib.hid ht4
  have HE4 := Lib.hid hbel4
  have HS4 := Lib.hid (HS3.out.below hbel4)
  have HPt : Hid (w1.heap.size ≤ pt) := Lib.hid (by have := HZ2.out; have := HE3.out.size; omega)
  have HOt : Hid (∀ k, ownt = some k → w1.heap.size ≤ k) := Lib.hid (fun k e => by have := ho4 k e; have := HZ2.out; have := HE3.out.size; omega)
  clear ht4 hbel4 hok4 hp4 ho4
  go_upto_region 6 with (fail)
  refine reopens_region 6 (by kernel_rfl) rfl rfl rfl rfl rfl rfl rfl rfl rfl rfl rfl rfl rfl rfl rfl rfl rfl rfl rfl rfl rfl rfl rfl rfl rfl rfl (show 67 ≤ 67 from by decide) (fun _ _ _ _ _ h => h) rfl rfl HS4.out HT4.out HOK ?_
  intro z0 z1 z2 z3 z4 z5 z6 z7 z8 z9 z10 z11 z12 z13 z14 z15 z16 z17 z18 z19 z20 z21 z22 z23 z24 w5 hb
  have HE5 := Lib.hid hb
  have HT5 := Lib.hid (HT4.out.below hb)
  have HP5 := Lib.hid (((HP.out.below HE3.out).below HE4.out).below hb)
  clear hb
  simp only [Act.put, List.setIfInBounds_toArray, List.set_cons_zero, List.set_cons_succ]
  clear HP HS2 HS3 HS4 HT4
  go_wp2_with fail
  refine (record_any g _ _ HP5.out.ps.deck (by decide)).mono ?_
  rintro e w6 ⟨gb, mb, b, rfl, hlb, hmb, hokb, hgb, hbb, ho6, hd6⟩
  have HT6 := Lib.hid (HT5.out.drawn HP5.out.ps.deck ho6)
  have HP6 := Lib.hid (HP5.out.drawn ho6 hd6)
  have HLB := Lib.hid hlb
  have HOB := Lib.hid hokb
  have HBB := Lib.hid hbb
  clear ho6 hd6 hlb hokb hbb hgb
  go_wp2_with fail
  refine (rsync_any q own' rs sy _ HP6.out.ps.rf).mono ?_
  rintro e w7 ⟨rfl, hs7, ho7⟩
  have HP7 := Lib.hid (HP6.out.other HT6.out HPt.out HOt.out hs7 ho7)
  have HBB7 := Lib.hid (HBB.out.besideRf HP6.out.ps.rf (ho7.chg (.inl rfl)))
  clear hs7 ho7
  obtain ⟨er, Her⟩ : ∃ er, Hid (er = appE (brecs 0 rs) b.length) := ⟨_, Lib.hid rfl⟩
  go_wp2_with fail
  refine (append_at Her HP7.out.ps.st HLB HBB7 HOB (by omega)).mono ?_
  rintro e w8 ⟨rfl, own1, hs8, ho8, hk8⟩
  have Hs8 := Lib.hid hs8
  have Ho8 := Lib.hid ho8
  have Hk8 := Lib.hid hk8
  clear hs8 ho8 hk8
  go_wp2_with fail
  refine (rappend_at Her (HP7.out.ps.rf.besideSt HP7.out.ps.st Hk8.out) HLB (Lib.hid (HBB7.out.besideSt HP7.out.ps.st Hk8.out)) HOB).mono ?_
  rintro e w9 ⟨rfl, own2, hs9, ho9, hk9⟩
  have HP9 := Lib.hid (HP7.out.app Hs8.out Ho8.out Hk8.out hs9 ho9 hk9)
  clear hs9 ho9 hk9 Hs8 Ho8 Hk8
  go_wp2_with fail
  refine (agree_any _ HP9.out.ps.st HP9.out.ps.rf).mono ?_
  rintro e w10 ⟨rfl, hb10⟩
  have HE10 := Lib.hid hb10
  clear hb10
  go_wp2_with fail
  refine (awake_any _).mono ?_
  rintro e w11 ⟨rfl, hb11⟩
  have HE11 := Lib.hid hb11
  clear hb11
  go_wp2
  go_ret
  exact ⟨rfl, law_bel Hg HB1 HP9.out.on (Lib.hid (Bel.trans HE10.out HE11.out))⟩
end Go.Proofs.Ytabnlnhnefjebaa
