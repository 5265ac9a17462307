/-
  Chapter 41: Open of the reference. The memory is that of the given program; no conditions.
-/
import Derived.Test.YtabnlnhnefjebaaRf11
namespace Go.Proofs.Ytabnlnhnefjebaa
open Go.RowKit
set_option linter.unusedVariables false
set_option linter.unusedSimpArgs false
/-- what is read at the block k of bytes in memory -/
theorem ro_cells {w wr : World} {A0 : Option Addr} {b x : List Int} {k : Nat} (hr : RdB w w.heap.size A0 b) (hbel : Below w.heap.size w wr) (hl : (k + 1) * 32 ≤ b.length) (hx : x = (b.drop (k * 32)).take 32) : ∃ g off, A0 = some ⟨g, off, none⟩ ∧ ∀ i, i < 32 → wr.cell? ⟨g, off + k * 32 + i, none⟩ = some (.int .u8 (at1 x i)) := by
  obtain ⟨g, off, e, hg, hc⟩ := hr.all (by omega)
  refine ⟨g, off, e, fun i hi => ?_⟩
  have h1 := hc (k * 32 + i) (by omega)
  rw [hbel.cell (p := ⟨g, off + k * 32 + i, none⟩) hg, Nat.add_assoc, h1, hx]
  simp [at1, List.getElem?_take, List.getElem?_drop, hi]
def RbYes (Ld : List Int) (s : Nat) (la : Bool) (w : World) (e : Ending) (w' : World) : Prop := ∃ Ap cp, e = .returned (.tuple #[.slice Ap s cp, .bool la, .bool true]) ∧ w = w' ∧ Src w 1 Ap s (u8s Ld)
section
variable {w wr : World} {A0 : Option Addr} {b x : List Int} {k m c0 : Nat}
theorem rbk_yes {s : Nat} {la : Bool} (hm : Hid (m = b.length)) (hr : Hid (RdB w w.heap.size A0 b)) (hbel : Below w.heap.size w wr) (hl : (k + 1) * 32 ≤ m) (hc : m ≤ c0) (hc2 : c0 ≤ 9223372036854775807) (hk : k < 16384) (hb : Hid (byteOk b)) (hx : Hid (x = (b.drop (k * 32)).take 32)) (hf : Hid (formed (k + 1) x = true)) (hs : Hid (s = bsize x)) (hla : Hid (la = blast x)) :
    Calls Try.prog 45 #[.slice (Option.map (fun x => x.add (k * 32)) A0) ((k + 1) * 32 - k * 32) (c0 - k * 32), .int .i64 ((k : Int) + 1)] wr (RbYes (bdata x) s la wr) := by
  have e := hm.out
  subst e
  have N := nxt_of hx.out hb.out hl hf.out
  obtain ⟨g, off, rfl, hcell⟩ := ro_cells hr.out hbel hl hx.out
  rw [show (k + 1) * 32 - k * 32 = 32 by omega, show (k : Int) + 1 = ((k + 1 : Nat) : Int) by omega, hs.out, hla.out]
  show Calls _ _ #[.slice (some ((⟨g, off, none⟩ : Addr).add (k * 32))) _ _, _] _ _
  rw [Go.WideShapes.add_plain]
  refine (rblock_yes N.len N.xok (by omega) (by omega) (by omega) hcell hf.out).mono ?_
  rintro e w' ⟨rfl, rfl⟩
  refine ⟨_, _, rfl, rfl, ?_⟩
  refine ⟨by rw [u8s_len, N.dlen, Nat.mul_one], fun _ => ⟨_, rfl, fun j u hu => ?_⟩⟩
  rw [Go.WideShapes.add_plain]
  have hj : j < bsize x := by
    have := (List.getElem?_eq_some_iff.1 hu).1
    rwa [u8s_len, N.dlen] at this
  have h26 := N.hi
  rw [N.dlen] at h26
  rw [Nat.add_assoc, hcell (5 + j) (by omega), ← hu, u8s_get _ _ (by rw [N.dlen]; exact hj)]
  simp [at1, bdata, List.getElem?_take, List.getElem?_drop, hj]
theorem rbk_no (hm : Hid (m = b.length)) (hr : Hid (RdB w w.heap.size A0 b)) (hbel : Below w.heap.size w wr) (hl : (k + 1) * 32 ≤ m) (hc : m ≤ c0) (hc2 : c0 ≤ 9223372036854775807) (hk : k < 16384) (hb : Hid (byteOk b)) (hx : Hid (x = (b.drop (k * 32)).take 32)) (hf : Hid (formed (k + 1) x = false)) :
    Calls Try.prog 45 #[.slice (Option.map (fun x => x.add (k * 32)) A0) ((k + 1) * 32 - k * 32) (c0 - k * 32), .int .i64 ((k : Int) + 1)] wr (RBad wr) := by
  have e := hm.out
  subst e
  have hlen : x.length = 32 := by rw [hx.out, List.length_take, List.length_drop]; omega
  have hxo : byteOk x := by rw [hx.out]; exact byteOk_take (byteOk_drop hb.out _) _
  obtain ⟨g, off, rfl, hcell⟩ := ro_cells hr.out hbel hl hx.out
  rw [show (k + 1) * 32 - k * 32 = 32 by omega, show (k : Int) + 1 = ((k + 1 : Nat) : Int) by omega]
  show Calls _ _ #[.slice (some ((⟨g, off, none⟩ : Addr).add (k * 32))) _ _, _] _ _
  rw [Go.WideShapes.add_plain]
  exact rblock_no hlen hxo (by omega) (by omega) (by omega) hcell hf.out
end
theorem rsync_ro {w : World} {q : Nat} {b : List Int} {k : Nat} {rs : List (List Int)} {now : List Int} {vs : List Value} {A3 : Option Addr} {c3 n3 : Nat} {A4 : Option Addr} {c4 n4 : Nat} {wr : World} (hM : Hid (RoM w q rs now vs A3 c3 n3 A4 c4 n4 wr)) (hP : Hid (RoP b k rs now)) (he : Hid (rs = opn b)) :
    Calls Try.prog 32 #[.pointer (some ⟨q, 0, none⟩)] wr (fun e w' => e = .returned (.tuple #[]) ∧ ROpenPost b w (.returned (.pointer (some ⟨q, 0, none⟩))) w') := by
  refine (rsync_any q _ rs 0 wr (hM.out.rf hP.out.ok hP.out.needs_le)).mono ?_
  rintro e w' ⟨h1, h2, h3⟩
  exact ⟨h1, ropen_post (k := k) hM.out he.out h2 h3⟩
theorem ro_cell {w : World} {q : Nat} {rs : List (List Int)} {now : List Int} {vs : List Value} {A3 : Option Addr} {c3 n3 : Nat} {A4 : Option Addr} {c4 n4 : Nat} {wr w6 : World} (h : Hid (RoM w q rs now vs A3 c3 n3 A4 c4 n4 wr)) (hg : Hid ((wr.alloc (.cells #[.slice A4 n4 c4] 23)).grownBy w6 (Value.slice A3 n3 c3).ownBlock)) : Blk w6 q 48 #[.slice A3 n3 c3, .int .i64 0] := by
  have hk2 : Chg (fun g => (Value.slice A3 n3 c3).ownBlock = some g) wr w6 := ((Chg.refl _ wr).alloc _).trans (Chg.of_grown hg.out (fun i _ e => e)) (fun _ _ h => h)
  exact h.out.box.chg hk2 (own_blk_ne h.out.row h.out.box ne2348)
set_option maxRecDepth 100000 in
set_option maxHeartbeats 3200000 in
theorem ropen_any (A0 : Option Addr) (c0 m : Nat) (b : List Int) (w : World) (hm : Hid (m = b.length)) (hr : RdB w w.heap.size A0 b) (hc : m ≤ c0) (hc2 : c0 ≤ 9223372036854775807) (hb : byteOk b) :
    Calls Try.prog 26 #[.slice A0 m c0] w (ROpenPost b w) := by
  have HR := Lib.hid hr
  have HB := Lib.hid hb
  obtain ⟨q, Hq⟩ : ∃ q, Hid (q = w.heap.size) := ⟨_, Lib.hid rfl⟩
  obtain ⟨i5, hi5, hz50, hz51, hz52⟩ := info_parts row5
  obtain ⟨i23, hi23, hz230, hz231, hz232⟩ := info_parts row23
  have HI5 := Lib.hid hi5
  have HI23 := Lib.hid hi23
  have HZ50 := Lib.hid hz50
  have HZ51 := Lib.hid hz51
  have HZ52 := Lib.hid hz52
  have HZ230 := Lib.hid hz230
  have HZ231 := Lib.hid hz231
  have HZ232 := Lib.hid hz232
  clear hi5 hi23 hz50 hz51 hz52 hz230 hz231 hz232 hr hb
  go_enter Try.func26, Try.ntmps26
  go_wp2
  rw [← Hq.out]
  go_loopw [4, 5] (fun v4 i wr => ∃ (k : Nat) (rs : List (List Int)) (now : List Int) (vs : List Value) (A3 : Option Addr) (c3 n3 : Nat) (A4 : Option Addr) (c4 n4 : Nat), i = .int .i64 ((k : Int) + 1) ∧ v4 = .slice A4 n4 c4 ∧ RoP b k rs now ∧ RoM w q rs now vs A3 c3 n3 A4 c4 n4 wr) (fun _ i _ => 16386 - (intOf i).toNat)
  case atStart => exact ⟨0, [], [], [], none, 0, 0, none, 0, 0, by go_num, rfl, RoP.start b, RoM.start Hq.out⟩
  case round =>
    obtain ⟨k, rs, now, vs, A3, c3, n3, A4, c4, n4, rfl, rfl, hP, hM⟩ := hrel
    have HP := Lib.hid hP
    have HM := Lib.hid hM
    have hkb := hP.kb
    have hn4 : n4 ≤ 4096 := by rw [← hM.e4]; exact hP.nl
    have hn3 : n3 ≤ 16384 := by
      rw [← hM.e3]; exact Nat.le_trans (needs_ge rs (fun r hr => (hP.ok r hr).2.1)) hP.needs_le
    clear hP hM
    by_cases hk : k < 16384
    · by_cases hl : (k + 1) * 32 ≤ m
      · have i1 : ((k : Int) + 1) * 32 ≤ (m : Int) := by omega
        have i2 : (k : Int) + 1 ≤ 16384 := by omega
        have i3 : (k : Int) + 1 - 1 = k := by omega
        have i4 : (k : Int) * 32 ≤ ((k : Int) + 1) * 32 := by omega
        have i5' : ((k : Int) + 1) * 32 ≤ (c0 : Int) := by omega
        obtain ⟨x, Hx⟩ : ∃ x, Hid (x = (b.drop (k * 32)).take 32) := ⟨_, Lib.hid rfl⟩
        cases hf : formed (k + 1) x with
        | false =>
          have HF := Lib.hid hf
          clear hf
          have HE : Hid (rs = opn b) := Lib.hid (HP.out.bad (.inl (by rw [← Hx.out]; exact HF.out)))
          go_wp2_with (go_at_call 45; refine (rbk_no hm HR HM.out.bel hl hc hc2 hk HB Hx HF).mono ?_; rintro e w' ⟨rfl, rfl⟩)
          go_wp2_with (go_at_call 32; refine (rsync_ro HM HP HE).mono ?_; rintro e w9 ⟨rfl, hpo⟩; have HPO := Lib.hid hpo; clear hpo)
          go_ret
          exact HPO.out
        | true =>
          have HF := Lib.hid hf
          clear hf
          obtain ⟨s, Hs⟩ : ∃ s, Hid (s = bsize x) := ⟨_, Lib.hid rfl⟩
          obtain ⟨la, Hla⟩ : ∃ la, Hid (la = blast x) := ⟨_, Lib.hid rfl⟩
          have HN : Hid (Nxt b k x (bdata x)) := Lib.hid (nxt_of Hx.out HB.out (by rw [← hm.out]; exact hl) HF.out)
          have hs26 : s ≤ 26 := by rw [Hs.out, ← HN.out.dlen]; exact HN.out.hi
          have HDs : Hid ((bdata x).length = s) := Lib.hid (by rw [HN.out.dlen, Hs.out])
          go_wp2_with fail
          refine (rbk_yes hm HR HM.out.bel hl hc hc2 hk HB Hx HF Hs Hla).mono ?_
          rintro e w' ⟨Ap, cp, rfl, rfl, hsrc⟩
          have HSr := Lib.hid hsrc
          clear hsrc
          by_cases hlong : 4096 < n4 + s
          · have j1 : 4096 < (n4 : Int) + (s : Int) := by omega
            have HE : Hid (rs = opn b) := Lib.hid (HP.out.bad (.inr (by rw [← Hx.out, ← Hs.out, HM.out.e4]; exact hlong)))
            go_wp2_with (go_at_call 32; refine (rsync_ro HM HP HE).mono ?_; rintro e w9 ⟨rfl, hpo⟩; have HPO := Lib.hid hpo; clear hpo)
            go_ret
            exact HPO.out
          · have j1 : ¬ 4096 < (n4 : Int) + (s : Int) := by omega
            go_wp2_with (at_builtin; refine wpList_app rfl (.tmp 45) (.tmp 46) 23 rfl w.heap.size 5 i5 (.int .u8 0) 1 1 und23 HI5.out HZ50.out HZ51.out HZ52.out rfl (by decide) _ n4 (u8s now) rfl HM.out.now_ _ _ _ (u8s (bdata x)) rfl HSr.out (u8s_one _) ?_ ?_ ?_ ?_)
            · unfold maxLen; omega
            · omega
            · exact HM.out.bel.size
            intro A5 c5 w4 Ho4 Hg4 Hx4
            have HM4 := Lib.hid (HM.out.add HDs.out Ho4.out Hg4.out Hx4.out)
            have HL4 := Lib.hid HM.out.e4
            clear Ho4 Hg4 Hx4 HM HSr
            have hsum : now.length + bsize x ≤ 4096 := by rw [← Hs.out, HL4.out]; omega
            cases la with
            | false =>
              have HP4 : Hid (RoP b (k + 1) rs (now ++ bdata x)) := Lib.hid (HP.out.stepM HN.out hk (by rw [← hm.out]; exact hl) HF.out hsum Hla.out.symm)
              clear HP HF HN hsum
              go_wp2
              go_roundw
              case rel => exact ⟨k + 1, rs, _, vs, A3, c3, n3, A5, c5, n4 + s, by go_num, rfl, HP4.out, HM4.out⟩
              case measure => simp [intOf]; omega
            | true =>
              have HP4 : Hid (RoP b (k + 1) (rs ++ [now ++ bdata x]) []) := Lib.hid (HP.out.stepL HN.out hk (by rw [← hm.out]; exact hl) HF.out hsum Hla.out.symm)
              clear HP HF HN hsum
              have x0 : w4.cell? ⟨q, 0, none⟩ = some (.slice A3 n3 c3) := by have := HM4.out.box.cell 0; simpa using this
              have HRow : Hid ((w4.alloc (.cells #[.slice A5 (n4 + s) c5] 23)).ownsRow w.heap.size 23 1 (.slice A3 n3 c3) n3 vs) := Lib.hid (HM4.out.row.alloc _)
              have HSz : Hid (w.heap.size ≤ (w4.alloc (.cells #[.slice A5 (n4 + s) c5] 23)).heap.size) := Lib.hid (by have := HM4.out.bel.size; simp; omega)
              go_wp2_with (at_builtin; refine wpList_app rfl (.tmp 53) (.tmp 55) 24 rfl w.heap.size 23 i23 (.slice none 0 0) 1 24 und24 HI23.out HZ230.out HZ231.out HZ232.out rfl (by decide) _ n3 vs rfl HRow.out _ _ _ [.slice A5 (n4 + s) c5] rfl (one_src w4 _ _) (one_cell _ _ _) ?_ ?_ ?_ ?_)
              · unfold maxLen; omega
              · omega
              · exact HSz.out
              intro A6 c6 w6 Ho6 Hg6 Hx6
              have y0 : w6.cell? ⟨q, 0, none⟩ = some (.slice A3 n3 c3) := by have := (ro_cell HM4 Hg6).cell 0; simpa using this
              have y1 : w6.frozen? ⟨q, 0, none⟩ = false := (ro_cell HM4 Hg6).frozen 0
              have HM6 := Lib.hid (HM4.out.push Ho6.out Hg6.out)
              clear x0 HRow HSz Ho6 Hg6 Hx6 HM4
              go_wp2
              go_roundw
              case rel => exact ⟨k + 1, _, [], _, A6, c6, n3 + 1, none, 0, 0, by go_num, rfl, HP4.out, HM6.out⟩
              case measure => simp [intOf]; omega
      · have HE : Hid (rs = opn b) := Lib.hid (HP.out.short (by rw [← hm.out]; exact hl))
        have i1 : ¬ ((k : Int) + 1) * 32 ≤ (m : Int) := by omega
        have i2 : (k : Int) + 1 ≤ 16384 := by omega
        go_wp2_with (go_at_call 32; refine (rsync_ro HM HP HE).mono ?_; rintro e w9 ⟨rfl, hpo⟩; have HPO := Lib.hid hpo; clear hpo)
        go_ret
        exact HPO.out
    · have HE : Hid (rs = opn b) := Lib.hid (HP.out.full hk)
      have i2 : ¬ (k : Int) + 1 ≤ 16384 := by omega
      go_wp2_with (go_at_call 32; refine (rsync_ro HM HP HE).mono ?_; rintro e w9 ⟨rfl, hpo⟩; have HPO := Lib.hid hpo; clear hpo)
      go_ret
      exact HPO.out
end Go.Proofs.Ytabnlnhnefjebaa
