/-
  Chapter 41: awake; Mod. The memory is that of the given program; no conditions.
-/
import Derived.Test.YtabnlnhnefjebaaSt8
import Derived.Test.YtabnlnhnefjebaaSt6
namespace Go.Proofs.Ytabnlnhnefjebaa
open Go.RowKit
set_option linter.unusedVariables false
set_option linter.unusedSimpArgs false
set_option maxHeartbeats 400000 in
theorem mod_any (v n : Int) (w : World) (h0 : -9223372036854775808 ≤ v) (h1 : v ≤ 9223372036854775807) (hn : 0 < n) (hn2 : n ≤ 1000000) : Calls Try.prog 11 #[.int .i64 v, .int .i64 n] w fun e w' => e = .returned (.int .i64 (v % n)) ∧ w = w' := by
  have hb := tm_bd v n hn
  have hz : (n == 0) = false := by simp; omega
  have hm1 : (n == -1) = false := by simp; omega
  by_cases hneg : v.tmod n < 0
  · have he := mod_neg v n hn hneg
    have HE := Lib.hid he
    clear he
    go_enter Try.func11, Try.ntmps11
    go_wp2
    go_ret
    exact ⟨ret_int HE.out, rfl⟩
  · have he := mod_pos v n hn (by omega)
    have HE := Lib.hid he
    clear he
    go_enter Try.func11, Try.ntmps11
    go_wp2
    go_ret
    exact ⟨ret_int HE.out, rfl⟩
theorem rdB_blk {w : World} {g : Nat} {t : TypeId} {l : List Int} (h : Blk w g t (u8s l).toArray) : RdB w w.heap.size (some ⟨g, 0, none⟩) l := by
  intro hn
  refine ⟨g, 0, rfl, h.lt, fun i j hi hj => ?_⟩
  obtain rfl : j = 0 := by omega
  have := h.cell i
  simp only [Nat.zero_add, Nat.mul_one, Nat.add_zero]
  rw [this]
  simpa using u8s_get l i hi
theorem RdB.up {w : World} {A : Option Addr} {l : List Int} {B : Nat} (h : RdB w B A l) (hB : B ≤ w.heap.size) : RdB w w.heap.size A l := Rd.more h hB
/-- an append to a store, whatever comes of it: the error, and the store behind it -/
def appE (B : List (List Int)) (m : Nat) : Int := if m < 1 ∨ 4096 < m then 1 else if 16384 < B.length + (m + 25) / 26 then 18 else 0
def appB (B : List (List Int)) (b : List Int) : List (List Int) := if appE B b.length = 0 then B ++ brec B.length b else B
theorem appE_range (B : List (List Int)) (m : Nat) : appE B m = 0 ∨ appE B m = 1 ∨ appE B m = 18 := by unfold appE; split <;> (try split) <;> simp
def AppAny (p : Nat) (own : Option Nat) (B : List (List Int)) (sy : Nat) (b : List Int) (w : World) (e : Ending) (w' : World) : Prop :=
  e = .returned (.int .i64 (appE B b.length)) ∧ ∃ own', St w' p own' (appB B b) sy ∧ (own' = own ∨ ∃ g, own' = some g ∧ w.heap.size ≤ g) ∧ Chg (fun k => k = p ∨ own = some k) w w'
theorem append_any (p : Nat) (own : Option Nat) (B : List (List Int)) (sy : Nat) (A0 : Option Addr) (c0 m : Nat) (b : List Int) (w : World) (hm : Hid (m = b.length)) (h : St w p own B sy) (hr : RdB w w.heap.size A0 b) (hc : m ≤ c0) (hc2 : c0 ≤ 9223372036854775807) (hb : byteOk b)
    (hap : ∀ ad, A0 = some ad → ad.block ≠ p ∧ own ≠ some ad.block) : Calls Try.prog 19 #[.pointer (some ⟨p, 0, none⟩), .slice A0 m c0] w (AppAny p own B sy b w) := by
  have e := hm.out
  subst e
  by_cases h1 : b.length < 1 ∨ 4096 < b.length
  · have e1 : appE B b.length = 1 := by unfold appE; rw [if_pos h1]
    refine (append_bad p own B sy A0 b.length c0 w h1).mono ?_
    rintro e w' ⟨rfl, rfl⟩
    exact ⟨by rw [e1], own, by unfold appB; rw [e1]; exact h, .inl rfl, Chg.refl _ _⟩
  · by_cases h2 : 16384 < B.length + (b.length + 25) / 26
    · have e1 : appE B b.length = 18 := by unfold appE; rw [if_neg h1, if_pos h2]
      refine (append_full_ p own B sy A0 b.length c0 w h (by omega) (by omega) h2).mono ?_
      rintro e w' ⟨rfl, rfl⟩
      exact ⟨by rw [e1], own, by unfold appB; rw [e1]; exact h, .inl rfl, Chg.refl _ _⟩
    · have e1 : appE B b.length = 0 := by unfold appE; rw [if_neg h1, if_neg h2]
      refine (append_ok p own B sy A0 c0 b w h hr hc hc2 hb hap (by omega) (by omega) (by unfold need; omega)).mono ?_
      rintro e w' ⟨rfl, own', h3, h4, h5⟩
      exact ⟨by rw [e1], own', by unfold appB; rw [e1]; exact h3, h4, h5⟩
theorem brec27 : brec 0 (zeroN 27) = [blk 1 (zeroN 26) false, blk 2 [0] true] := by
  rw [brec_cons 0 (zeroN 27) (by simp [zeroN])]
  have e1 : (zeroN 27).drop 26 = [0] := rfl
  have e2 : (zeroN 27).take 26 = zeroN 26 := rfl
  rw [e1, e2, brec_cons 1 [0] (by simp)]
  have e3 : ([0] : List Int).drop 26 = [] := rfl
  rw [e3, brec_nil]
  rfl
theorem wbit_zero (j : Nat) : wbit 0 j = false := by
  unfold wbit
  rw [Int.zero_ediv]
  rfl
theorem opn27 : opn (crashB (wbit 0) (keepOf 31) 0 (brecs 0 [zeroN 27])).flatten = [] := by
  have hok : recsOk [zeroN 27] := by
    intro r hr
    simp at hr
    subst hr
    exact ⟨zeroN_ok 27, by rw [zeroN_len]; omega, by rw [zeroN_len]; omega⟩
  obtain ⟨m, h1, h2, h3, _, h5⟩ := opn_crash [zeroN 27] hok (by rw [needs_cons, needs_nil]; unfold need; rw [zeroN_len]; omega) (wbit 0) (keepOf 31) 0 (keepOf_le 31) (Nat.zero_le _)
  rw [h5]
  have : m = 0 := by
    rcases h3 with h3 | h3
    · rw [wbit_zero] at h3; cases h3
    · exact h3
  subst this
  rw [dur_zero _ (fun r hr => (hok r hr).2.1)]
  rfl
theorem brecs27 : brecs 0 [zeroN 27] = brec 0 (zeroN 27) := by simp [brecs]
theorem flat27 : (brec 0 (zeroN 27)).flatten.length = 64 ∧ (u8s (brec 0 (zeroN 27)).flatten)[4]? = some (.int .u8 26) ∧ (u8s (brec 0 (zeroN 27)).flatten)[36]? = some (.int .u8 129) := by
  rw [brec27]
  refine ⟨rfl, rfl, rfl⟩
theorem rd_z {w : World} {g : Nat} {t : TypeId} {n : Nat} {z : List Int} (hz : Hid (z = zeroN n)) (h : Hid (Blk w g t (u8s (zeroN n)).toArray)) : RdB w w.heap.size (some ⟨g, 0, none⟩) z := by
  rw [hz.out]; exact rdB_blk h.out
/-- a row of another type is no part of a store -/
theorem ap_of {w : World} {p : Nat} {own : Option Nat} {B : List (List Int)} {sy : Nat} (h : St w p own B sy) {g off : Nat} {t : TypeId} {cs : Array Value} (hb : Blk w g t cs) (h1 : t ≠ 59) (h2 : 61 ≠ t) : ∀ ad, some (⟨g, off, none⟩ : Addr) = some ad → ad.block ≠ p ∧ own ≠ some ad.block := by
  obtain ⟨A, c, h⟩ := h
  intro ad e
  injection e with e
  subst e
  exact ⟨hb.ne_ h.box h1, by rw [h.own_]; exact own_blk_ne h.row hb h2⟩
theorem bytes_at {w : World} {p : Nat} {own : Option Nat} {B : List (List Int)} {sy n : Nat} (hn : Hid (n = B.length * 32)) (h : St w p own B sy) : Calls Try.prog 30 #[.pointer (some ⟨p, 0, none⟩)] w (NewBlk B.flatten n w) := by
  rw [hn.out]; exact bytes_any p own B sy w h
theorem crash_at {w : World} {p : Nat} {own : Option Nat} {B : List (List Int)} {sy n : Nat} {cb : List Int} (hn : Hid (n = B.length * 32)) {which torn : Int} (hc : Hid (cb = (crashB (wbit which) (keepOf torn) sy B).flatten)) (w_ t_ : Int) (h0 : 0 ≤ which) (h1 : which ≤ 18446744073709551615) (h : St w p own B sy) : Calls Try.prog 23 #[.pointer (some ⟨p, 0, none⟩), .int .u64 which, .int .i64 torn] w (NewBlk cb n w) := by
  rw [hn.out, hc.out]; exact crash_any p own B sy which torn w h h0 h1
theorem open_at {w : World} {A0 : Option Addr} {c0 m : Nat} {b : List Int} (hm : Hid (m = b.length)) (hr : RdB w w.heap.size A0 b) (hc : m ≤ c0) (hc2 : c0 ≤ 9223372036854775807) (hb : byteOk b) : Calls Try.prog 12 #[.slice A0 m c0] w (OpenPost b w) := by
  rw [hm.out]; exact open_any A0 c0 b w hr (by rw [← hm.out]; exact hc) hc2 hb
theorem crashB_ok {bit : Nat → Bool} {keep sy : Nat} {B : List (List Int)} (hk : keep ≤ 31) (hB : blocksOk B) : byteOk (crashB bit keep sy B).flatten := by
  refine byteOk_flat (fun l hl => ?_)
  unfold crashB at hl
  rcases List.mem_append.1 hl with hl | hl
  · exact (hB l (List.mem_of_mem_take hl)).2
  · exact (crashL_each bit _ (fun x hx => hB x (List.mem_of_mem_drop hx)) 0 keep (by omega) l hl).2
theorem cb_ok {w : World} {p : Nat} {own : Option Nat} {B : List (List Int)} {sy : Nat} {cb : List Int} {which torn : Int} (hc : Hid (cb = (crashB (wbit which) (keepOf torn) sy B).flatten)) (h : Hid (St w p own B sy)) : byteOk cb := by
  rw [hc.out]
  obtain ⟨A, c, h⟩ := h.out
  exact crashB_ok (keepOf_le torn) h.ok
set_option maxRecDepth 100000 in
set_option maxHeartbeats 3200000 in
theorem awake_any (w : World) : Calls Try.prog 17 #[] w (RetB true w) := by
  obtain ⟨B, HB⟩ : ∃ B, Hid (B = brec 0 (zeroN 27)) := ⟨_, Lib.hid rfl⟩
  obtain ⟨z, HZ⟩ : ∃ z, Hid (z = zeroN 27) := ⟨_, Lib.hid rfl⟩
  have HzL : Hid (27 = z.length) := Lib.hid (by rw [HZ.out, zeroN_len])
  have HZB : Hid (byteOk z) := Lib.hid (by rw [HZ.out]; exact zeroN_ok 27)
  have HAB : Hid (appB [] z = B) := Lib.hid (by rw [HB.out, HZ.out]; rfl)
  have HAE : Hid (appE [] z.length = 0) := Lib.hid (by rw [← HzL.out]; rfl)
  have HBL : Hid (B.length = 2) := Lib.hid (by rw [HB.out, brec27]; rfl)
  have HF : Hid (B.flatten.length = 64 ∧ (u8s B.flatten)[4]? = some (.int .u8 26) ∧ (u8s B.flatten)[36]? = some (.int .u8 129)) := Lib.hid (by rw [HB.out]; exact flat27)
  obtain ⟨cb, Hcb⟩ : ∃ cb, Hid (cb = (crashB (wbit 0) (keepOf 31) 0 B).flatten) := ⟨_, Lib.hid rfl⟩
  have HO : Hid (opn cb = []) := Lib.hid (by rw [Hcb.out, HB.out, ← brecs27]; exact opn27)
  go_enter Try.func17, Try.ntmps17
  go_upto_region 4 with (go_at_call 18; refine (new_any w).mono ?_; rintro e w1 ⟨rfl, hw1⟩; have Hw1 := Lib.hid hw1; clear hw1)
  obtain ⟨p, Hp⟩ : ∃ p, Hid (p = w.heap.size) := ⟨_, Lib.hid rfl⟩
  rw [← Hp.out]
  have HS1 : Hid (St w1 p none [] 0) := Lib.hid (by rw [Hw1.out]; exact st_new w p Hp.out)
  have Hbel1 : Hid (Below w.heap.size w w1) := Lib.hid (by rw [Hw1.out]; exact (Below.refl _ _).alloc (Nat.le_refl _) _)
  have H27 : Hid ((27 : Int) = ((27 : Nat) : Int)) := Lib.hid rfl
  have H27b : Hid (27 ≤ 100000000) := Lib.hid (by decide)
  go_upto_region 5 with (first
    | (refine wpList_make23 rfl (.const (.int .i64 27)) rfl 27 _ rfl H27 H27b ?_; intro g9 w2 Hg9 Hb9 Hbel9)
    | (go_at_call 19; refine (append_any p none [] 0 _ 27 27 z _ HzL ((HS1.out).below Hbel9.out) (rd_z HZ Hb9) (Nat.le_refl _) (by decide) HZB.out (ap_of ((HS1.out).below Hbel9.out) Hb9.out (by decide) (by decide))).mono ?_; rintro e w3 ⟨rfl, own3, hs3, ho3, hc3⟩; have Hs3 := Lib.hid hs3; have Ho3 := Lib.hid ho3; have Hc3 := Lib.hid hc3; clear hs3 ho3 hc3))
  rw [HAE.out]
  rw [HAB.out] at Hs3
  have Hbel2 := Lib.hid (bel_more Hbel1.out Hbel9)
  have Hbel3 : Hid (Below w.heap.size w w3) := Lib.hid ((Hbel2.out).trans ((Hc3.out).below (Hbel2.out).size (fun i hi e => by
    rcases e with e | e
    · rw [Hp.out] at e; omega
    · cases e)))
  have H64 : Hid (64 = B.length * 32) := Lib.hid (by rw [HBL.out])
  clear HS1 Hb9 Hc3 Ho3 Hbel9 Hbel1 Hbel2
  go_upto_region 6 with (go_at_call 30; refine (bytes_at H64 Hs3.out).mono ?_; rintro e w4 ⟨gb, rfl, hgb, hb4, hl4, hbel4⟩; have Hb4 := Lib.hid hb4; have Hbel4 := Lib.hid hbel4; clear hb4 hl4 hbel4 hgb)
  have Hs4 := Lib.hid ((Hs3.out).below Hbel4.out)
  have HB4 := Lib.hid (bel_more Hbel3.out Hbel4)
  clear Hs3 Hbel3 Hbel4
  go_upto_region 7 with (first
    | (go_at_call 23; refine (crash_at H64 Hcb 0 31 (by decide) (by decide) Hs4.out).mono ?_; rintro e w5 ⟨gc, rfl, hgc, hb5, hl5, hbel5⟩; have Hb5 := Lib.hid hb5; have Hbel5 := Lib.hid hbel5; have Hl5 := Lib.hid hl5.symm; clear hb5 hbel5 hgc hl5)
    | (go_at_call 12; refine (open_at Hl5 (rdB_blk Hb5.out) (Nat.le_refl _) (by decide) (cb_ok Hcb Hs4)).mono ?_; rintro e w6 ⟨p2, own2, rfl, hs6, hbel6, hp6, _, _, _⟩; have Hs6 := Lib.hid hs6; have Hbel6 := Lib.hid hbel6; clear hs6 hbel6 hp6))
  have HB6 := Lib.hid (bel_more (bel_more HB4.out Hbel5) Hbel6)
  have Hs6' : Hid (St w6 p2 own2 [] 0) := Lib.hid (by have := Hs6.out; rw [HO.out] at this; exact this)
  have HBb : Hid (Blk w6 gb 5 (u8s B.flatten).toArray) := blk_more (blk_more Hb4.out Hbel5).out Hbel6
  have x4 : w6.cell? ⟨gb, 4, none⟩ = some (.int .u8 26) := by rw [(HBb.out).cell 4]; simpa using (HF.out).2.1
  have x36 : w6.cell? ⟨gb, 36, none⟩ = some (.int .u8 129) := by rw [(HBb.out).cell 36]; simpa using (HF.out).2.2
  clear Hs6 Hb5 Hbel5 Hbel6 Hb4 HBb Hs4 HB4
  go_wp2_with (go_at_call 16; refine (len_any p2 own2 [] 0 _ Hs6'.out).mono ?_; rintro e w7 ⟨rfl, hb7⟩; have Hb7 := Lib.hid hb7; clear hb7)
  go_ret
  exact ⟨rfl, bel_more HB6.out Hb7⟩
end Go.Proofs.Ytabnlnhnefjebaa
