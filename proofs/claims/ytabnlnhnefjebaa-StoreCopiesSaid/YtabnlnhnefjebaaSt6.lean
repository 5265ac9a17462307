/-
  Chapter 41: the walk of Open. The memory is that of the given program; no conditions.
-/
import Derived.Test.YtabnlnhnefjebaaSt6a
namespace Go.Proofs.Ytabnlnhnefjebaa
open Go.RowKit
set_option linter.unusedVariables false
set_option linter.unusedSimpArgs false
section
variable {w : World} {p : Nat} {b : List Int} {rs : List (List Int)} {now r : List Int} {A2 : Option Addr} {c2 : Nat} {B1 : List (List Int)} {own1 : Option Nat} {A1 : Option Addr} {c1 : Nat} {wr w' : World}
theorem OpnL.below (h : OpnL w p b rs now r A2 c2 B1 own1 A1 c1 wr) (hb : Below wr.heap.size wr w') : OpnL w p b rs now r A2 c2 B1 own1 A1 c1 w' :=
  ⟨h.st.below hb, h.blks, h.tot, RdB.below h.rd (hb.mono h.bel.size), h.cap, h.bok, h.ok, h.nok, h.nl, h.nm, h.bel.trans (hb.mono h.bel.size), h.fresh, h.pge⟩
theorem OpnL.range (h : OpnL w p b rs now r A2 c2 B1 own1 A1 c1 wr) (hr : 32 ≤ r.length) {g off : Nat} (hA : A2 = some ⟨g, off, none⟩) : wr.rangeAt g off (u8s (r.take 32)) := by
  subst hA
  obtain ⟨g', off', e, hb, hc⟩ := h.rd.all (by omega)
  injection e with e
  injection e with e1 e2
  subst e1 e2
  intro j v hv
  have hj : j < 32 := by
    have := (List.getElem?_eq_some_iff.1 hv).1
    rw [u8s_len, List.length_take] at this
    omega
  rw [hc j (by omega), ← hv, u8s_get _ _ (by rw [List.length_take]; omega), at1_take _ _ _ hj]
end
section
variable {w : World} {p : Nat} {b : List Int} {rs : List (List Int)} {now r : List Int} {A2 : Option Addr} {c2 : Nat} {B1 : List (List Int)} {own1 : Option Nat} {A1 : Option Addr} {c1 : Nat} {wr wn : World} {own2 : Option Nat} {A3 : Option Addr} {c3 : Nat}
theorem OpnL.aft (h : OpnL w p b rs now r A2 c2 B1 own1 A1 c1 wr) (ho : own2 = own1 ∨ ∃ g, own2 = some g ∧ wr.heap.size ≤ g) (hk : Chg (fun k => k = p ∨ own1 = some k) wr wn) :
    RdB wn w.heap.size A2 r ∧ Below w.heap.size w wn ∧ ∀ g, own2 = some g → w.heap.size ≤ g := by
  have hsz := h.bel.size
  have hb : Below w.heap.size w wn := h.bel.trans (hk.below hsz (fun i hi e => by
    rcases e with e | e
    · have := h.pge; omega
    · have := h.fresh i e; omega))
  have hb2 : Below w.heap.size wr wn := hk.below hsz (fun i hi e => by
    rcases e with e | e
    · have := h.pge; omega
    · have := h.fresh i e; omega)
  refine ⟨RdB.below h.rd hb2, hb, fun g e => ?_⟩
  rcases ho with ho | ⟨g', ho, hg⟩
  · exact h.fresh g (by rw [← ho]; exact e)
  · rw [ho] at e; injection e with e; omega
theorem OpnL.stepL (h : OpnL w p b rs now r A2 c2 B1 own1 A1 c1 wr) (hB : B1.length < 16384) (hr : 32 ≤ r.length) {x : List Int} (hx : x = r.take 32) (hf : formed (B1.length + 1) x = true) (hs : now.length + bsize x ≤ 4096) (hl : blast x = true)
    (hst : StV wn p own2 (B1 ++ [x]) 0 A3 c3) (ho : own2 = own1 ∨ ∃ g, own2 = some g ∧ wr.heap.size ≤ g) (hk : Chg (fun k => k = p ∨ own1 = some k) wr wn) :
    OpnL w p b (rs ++ [now ++ bdata x]) [] (r.drop 32) (if c2 = 32 then A2 else A2.map (·.add 32)) (c2 - 32) (B1 ++ [x]) own2 A3 c3 wn := by
  obtain ⟨h1, h2, h3⟩ := h.aft ho hk
  have hc := h.cap
  exact h.nextL hB hr hx hf hs hl hst (h1.cut hc.1 hr) ⟨by omega, by omega⟩ h2 h3
theorem OpnL.stepM (h : OpnL w p b rs now r A2 c2 B1 own1 A1 c1 wr) (hB : B1.length < 16384) (hr : 32 ≤ r.length) {x : List Int} (hx : x = r.take 32) (hf : formed (B1.length + 1) x = true) (hs : now.length + bsize x ≤ 4096) (hl : blast x = false)
    (hst : StV wn p own2 (B1 ++ [x]) 0 A3 c3) (ho : own2 = own1 ∨ ∃ g, own2 = some g ∧ wr.heap.size ≤ g) (hk : Chg (fun k => k = p ∨ own1 = some k) wr wn) :
    OpnL w p b rs (now ++ bdata x) (r.drop 32) (if c2 = 32 then A2 else A2.map (·.add 32)) (c2 - 32) (B1 ++ [x]) own2 A3 c3 wn := by
  obtain ⟨h1, h2, h3⟩ := h.aft ho hk
  have hc := h.cap
  exact h.nextM hB hr hx hf hs hl hst (h1.cut hc.1 hr) ⟨by omega, by omega⟩ h2 h3
end
theorem opn_start (b : List Int) : [] ++ opnA (16384 - ([] : List (List Int)).length) ([] : List (List Int)).length [] b = opn b := by
  have h : ∀ k n, k = 16384 → n = 0 → [] ++ opnA k n [] b = opnA 16384 0 [] b := fun k n h1 h2 => by rw [h1, h2, List.nil_append]
  exact h _ _ rfl rfl
theorem run_array32 (w : World) (A : Option Addr) (c : Nat) : (Instr.arrayAt 61 (.slice A 32 c)).run Try.prog w = .ok (.pointer A) w := by
  unfold Instr.arrayAt
  simp [run_underlying und61]
theorem range_blk {w : World} {g : Nat} {t : TypeId} {x : List Int} (h : Blk w g t (u8s x).toArray) : w.rangeAt g 0 (u8s x) := fun j v hv => by
  rw [Nat.zero_add, h.cell]; simpa using hv
theorem cell_keep {w w' : World} {g i : Nat} {v : Value} (h : w.cell? ⟨g, i, none⟩ = some v) (hb : Hid (Below w.heap.size w w')) : w'.cell? ⟨g, i, none⟩ = some v := by
  rw [← h]; exact (hb.out).cell (World.block_lt_of_cell? w _ h)
theorem range_keep {w w' : World} {g o : Nat} {cs : List Value} (h : w.rangeAt g o cs) (hb : Hid (Below w.heap.size w w')) : w'.rangeAt g o cs := fun j v hv => cell_keep (h j v hv) hb
set_option maxRecDepth 100000 in
set_option maxHeartbeats 6400000 in
theorem open_any (A0 : Option Addr) (c0 : Nat) (b : List Int) (w : World) (hr : RdB w w.heap.size A0 b) (hc : b.length ≤ c0) (hc2 : c0 ≤ 9223372036854775807) (hb : byteOk b) :
    Calls Try.prog 12 #[.slice A0 b.length c0] w (OpenPost b w) := by
  have HL0 : Hid (OpnL w w.heap.size b [] [] b A0 c0 [] none none 0 (w.alloc (.cells #[.slice none 0 0, .int .i64 0] 59))) := Lib.hid (by
    obtain ⟨A, c, h⟩ := st_new w w.heap.size rfl
    have hb1 : Below w.heap.size w (w.alloc (.cells #[.slice none 0 0, .int .i64 0] 59)) := (Below.refl _ _).alloc (Nat.le_refl _) _
    refine ⟨⟨rfl, Blk.new w _ _, World.ownsRow_nil _ _ _ _, (fun x hx => by simp at hx), by simp, Nat.le_refl _⟩, by rw [part_nil]; rfl, opn_start b, RdB.below hr hb1, ⟨hc, hc2⟩, hb, (fun x hx => by simp at hx), (fun x hx => by simp at hx), by simp, rfl, hb1, (fun g e => by cases e), Nat.le_refl _⟩)
  clear hr hb hc hc2
  go_enter Try.func12, Try.ntmps12
  go_wp2
  obtain ⟨p, Hp⟩ : ∃ p, Hid (p = w.heap.size) := ⟨_, Lib.hid rfl⟩
  rw [← Hp.out] at HL0
  rw [← Hp.out]
  go_loopw [0, 4, 5] (fun v l k wr => ∃ rs now r A2 c2 B1 own1 A1 c1, v = .slice A2 r.length c2 ∧ l = .int .i64 now.length ∧ k = .int .i64 (needs rs) ∧ OpnL w p b rs now r A2 c2 B1 own1 A1 c1 wr) (fun v _ _ _ => match v with | .slice _ n _ => n | _ => 0)
  case atStart => exact ⟨_, _, _, _, _, _, _, _, _, rfl, rfl, rfl, HL0.out⟩
  case round =>
    obtain ⟨rs, now, r, A2, c2, B1, own1, A1, c1, rfl, rfl, rfl, hL⟩ := hrel
    have HL := Lib.hid hL
    have x0 := hL.st.box.cell 0
    have x1 := hL.st.box.cell 1
    have f0 := hL.st.box.frozen 0
    have f1 := hL.st.box.frozen 1
    have hN := hL.st.len
    have hcap1 := hL.cap.1
    have hcap2 := hL.cap.2
    have hnl := hL.nl
    have hbl := hL.blen
    have hc1 := hL.st.cap.1
    have hc2' := hL.st.cap.2
    simp at x0 x1
    clear hL HL0
    obtain ⟨N1, HN1⟩ : ∃ N1, Hid (N1 = B1.length) := ⟨_, Lib.hid rfl⟩
    obtain ⟨m1, HM1⟩ : ∃ m1, Hid (m1 = r.length) := ⟨_, Lib.hid rfl⟩
    obtain ⟨nl, Hnl⟩ : ∃ nl, Hid (nl = now.length) := ⟨_, Lib.hid rfl⟩
    obtain ⟨wh, Hwh⟩ : ∃ wh, Hid (wh = needs rs) := ⟨_, Lib.hid rfl⟩
    rw [← HN1.out] at x0 hN hbl hc1
    rw [← HM1.out] at hcap1 ⊢
    rw [← Hnl.out] at hnl ⊢
    rw [← Hwh.out] at hbl ⊢
    have hwh : wh ≤ N1 := by omega
    clear hbl
    by_cases hB : N1 < 16384
    · by_cases hm : 32 ≤ m1
      · have d1 : decide ((N1 : Int) < 16384) = true := by simp; omega
        have d2 : decide (32 ≤ (m1 : Int)) = true := by simp; omega
        have hm' : 32 ≤ r.length := by rw [← HM1.out]; exact hm
        have hmi : (32 : Int) ≤ c2 := by omega
        obtain ⟨bb, off, rfl, hbb, _⟩ := (HL.out).rd.all (by omega)
        obtain ⟨x, Hx⟩ : ∃ x, Hid (x = r.take 32) := ⟨_, Lib.hid rfl⟩
        have HR : Hid (wr.rangeAt bb off (u8s x)) := Lib.hid (by rw [Hx.out]; exact (HL.out).range hm' rfl)
        have HX : Hid (x.length = 32) := Lib.hid (by rw [Hx.out, List.length_take]; omega)
        have HBX : Hid (byteOk x) := Lib.hid (by rw [Hx.out]; exact byteOk_take (HL.out).bok 32)
        obtain ⟨fx, HFX⟩ : ∃ fx, Hid (fx = formed (N1 + 1) x) := ⟨_, Lib.hid rfl⟩
        obtain ⟨s, Hs⟩ : ∃ s, Hid (s = bsize x) := ⟨_, Lib.hid rfl⟩
        obtain ⟨la, Hla⟩ : ∃ la, Hid (la = blast x) := ⟨_, Lib.hid rfl⟩
        have hs : s < 128 := by rw [Hs.out]; unfold bsize; omega
        have harr := run_array32
        clear hm'
        go_upto_region 5 with (first
          | (refine wpList_load_mid rfl 61 (.tmp 22) rfl bb off rfl (u8s x) _ HR.out und61 rfl (info_32l HX) ?_)
          | (refine wpList_alloc_arr rfl 61 rfl _ zero61 ?_; intro g6 w1 Hg6 Hw1)
          | (refine wpList_store_blk rfl 61 (.tmp 6) (.tmp 23) rfl g6 _ _ 61 (blk_of Hg6 Hw1) rfl rfl (info_32 HX) (size_32 HX) (u8s_all _) ?_; intro w2 Hb2 Ho2))
        clear harr
        have HB2 : Hid (Below wr.heap.size wr w2) := Lib.hid (bel_next (Lib.hid (Below.refl _ _)) Hg6 Hw1 Ho2)
        have HL2 := Lib.hid ((HL.out).below HB2.out)
        have Hne6 : Hid (own1 ≠ some g6 ∧ g6 ≠ p) := Lib.hid ⟨fun e => by have := (HL.out).st.own_lt g6 e; rw [Hg6.out] at this; omega, fun e => by have := (HL.out).st.box.lt; rw [← e, Hg6.out] at this; omega⟩
        have HFX' : Hid (fx = formed (B1.length + 1) x) := Lib.hid (by rw [HFX.out, HN1.out])
        obtain ⟨tv, Htv⟩ : ∃ tv, Hid (tv = (!fx || decide (4096 < (nl : Int) + (s : Int)))) := ⟨_, Lib.hid rfl⟩
        clear HR Hw1 Ho2 x0 x1 f0 f1
        refine opentest 5 24 3 4 6 (by kernel_rfl) (by decide) (by decide) (by decide) (show 39 < 77 from by decide) p g6 nl s rfl rfl rfl (HL2.out).st Hb2.out HX HBX HFX' Hs hnl hs Htv ?_
        simp only [Nat.reduceAdd, Act.put, List.setIfInBounds_toArray, List.set_cons_zero, List.set_cons_succ]
        intro v0 v1 v2 v3 v4 v5 v6 v7 v8 v9 v10 v11 v12 v13 v14 w3 Hb3
        have HL3 := Lib.hid ((HL2.out).below Hb3.out)
        by_cases hbad : fx = false ∨ 4096 < nl + s
        · obtain rfl : tv = true := by
            rw [Htv.out]
            rcases hbad with h | h
            · rw [h]; rfl
            · have : decide (4096 < (nl : Int) + (s : Int)) = true := by simp; omega
              rw [this]; simp
          have HD : Hid (rs = opn b) := Lib.hid ((HL3.out).done (.inr (.inr (by
            rcases hbad with h | h
            · left; rw [← Hx.out, ← HFX'.out]; exact h
            · right; rw [← Hx.out, ← Hs.out, ← Hnl.out]; exact h))))
          have HP := Lib.hid (openPost_of HL3.out HD.out)
          rw [← Hwh.out] at HP
          have x0 := (HL3.out).st.box.cell 0
          have x1 := (HL3.out).st.box.cell 1
          have f0 := (HL3.out).st.box.frozen 0
          have f1 := (HL3.out).st.box.frozen 1
          simp at x0 x1
          rw [← HN1.out] at x0
          clear hbad
          go_wp2
          go_ret
          exact HP.out
        · have hfx : fx = true := by
            cases fx with
            | false => exact absurd (.inl rfl) hbad
            | true => rfl
          have hns : nl + s ≤ 4096 := by omega
          obtain rfl : tv = false := by
            rw [Htv.out]
            have : decide (4096 < (nl : Int) + (s : Int)) = false := by simp; omega
            rw [hfx, this]; rfl
          have Hfx : Hid (formed (B1.length + 1) x = true) := Lib.hid (by rw [← HFX'.out]; exact hfx)
          have HRM : Hid (B1.length + 1 ≤ 16384) := Lib.hid (by rw [← HN1.out]; omega)
          have HB6 : Hid (Blk w3 g6 61 (u8s x).toArray) := blk_more Hb2.out Hb3
          clear hbad hfx
          go_upto_region 6 with (fail)
          refine push_any 6 40 3 6 (by kernel_rfl) rfl rfl rfl rfl rfl rfl rfl rfl rfl rfl rfl (by decide) (by decide) (show 49 < 77 from by decide) (fun _ _ _ _ _ h => h) p rfl g6 rfl (HL3.out).st x HX.out HBX.out HB6.out HRM.out ?_
          intro A' c' w4 own4 z0 z1 z2 z3 z4 z5 z6 z7 z8 z9 HS4 Hown4 Hchg4
          simp only [Nat.reduceAdd, Act.put, List.setIfInBounds_toArray, List.set_cons_zero, List.set_cons_succ]
          have HB4 : Hid (Blk w4 g6 61 (u8s x).toArray) := Lib.hid ((HB6.out).chg Hchg4.out (fun e => e.elim (Hne6.out).2 (Hne6.out).1))
          have hcl : la = true ∨ la = false := by cases la <;> simp
          go_upto_region 8 with (first
            | (refine wpList_load_blk rfl 61 (.tmp 6) rfl g6 _ 61 HB4.out rfl _ und61 rfl (info_32 HX) ?_)
            | (go_at_call 38; refine (size_at HX HBX Hs _).mono ?_; rintro e w5 ⟨rfl, hb5⟩; have Hb5 := Lib.hid hb5; clear hb5))
          have HB5 : Hid (Blk w5 g6 61 (u8s x).toArray) := blk_more HB4.out Hb5
          clear Hb2 HB6 Hne6 HL2 HB2 Htv HFX
          have HNx : Hid ((B1 ++ [x]).length = N1 + 1) := Lib.hid (by rw [List.length_append, ← HN1.out]; rfl)
          cases la with
          | true =>
            go_upto_region 9 with (first
              | (refine wpList_load_blk rfl 61 (.tmp 6) rfl g6 _ 61 HB5.out rfl _ und61 rfl (info_32 HX) ?_)
              | (go_at_call 39; refine (last_at HX HBX Hla _).mono ?_; rintro e w6 ⟨rfl, hb6⟩; have Hb6 := Lib.hid hb6; clear hb6))
            have HS6 := Lib.hid (((HS4.out).below Hb5.out).below Hb6.out)
            have y0 : w6.cell? ⟨p, 0, none⟩ = some (.slice A' (N1 + 1) c') := by rw [← HNx.out]; simpa using (HS6.out).box.cell 0
            go_quiet (fail)
            have HS7 : Hid (StV (w6.drewN nq) p own4 (B1 ++ [x]) 0 A' c') := Lib.hid ⟨(HS6.out).own_, (HS6.out).box, (HS6.out).row, (HS6.out).ok, (HS6.out).len, (HS6.out).syn⟩
            have HC7 : Hid (Chg (fun k => k = p ∨ own1 = some k) w3 (w6.drewN nq)) := Lib.hid ((((Hchg4.out).trans (Chg.of_below' (S := fun k => k = p ∨ own1 = some k) Hb5.out) (fun _ _ h => h)).trans (Chg.of_below' (S := fun k => k = p ∨ own1 = some k) Hb6.out) (fun _ _ h => h)).drewN nq)
            have HN7 := Lib.hid ((HL3.out).stepL (by rw [← HN1.out]; exact hB) (by rw [← HM1.out]; exact hm) Hx.out Hfx.out (by rw [← Hnl.out, ← Hs.out]; exact hns) Hla.out.symm HS7.out Hown4.out HC7.out)
            have HW : Hid (N1 + 1 = needs (rs ++ [now ++ bdata x])) := Lib.hid (by have := (HN7.out).blen; rw [need_nil] at this; rw [← HNx.out]; omega)
            clear HL3 HS4 Hown4 Hchg4 HB4 Hb5 HB5 Hb6 HS6 HS7 HC7 y0 HL
            by_cases hcq : c2 = 32
            all_goals
              go_wp2
              go_roundw
              case rel => exact ⟨_, _, _, _, _, _, _, _, _, by rw [List.length_drop, ← HM1.out]; first | rw [if_pos hcq, hcq] | rw [if_neg hcq]; rfl, rfl, by rw [← HW.out]; simp, HN7.out⟩
              case measure => show m1 - 32 < m1; omega
          | false =>
            go_upto_region 10 with (first
              | (refine wpList_load_blk rfl 61 (.tmp 6) rfl g6 _ 61 HB5.out rfl _ und61 rfl (info_32 HX) ?_)
              | (go_at_call 39; refine (last_at HX HBX Hla _).mono ?_; rintro e w6 ⟨rfl, hb6⟩; have Hb6 := Lib.hid hb6; clear hb6))
            have HS7 := Lib.hid (((HS4.out).below Hb5.out).below Hb6.out)
            have HC7 : Hid (Chg (fun k => k = p ∨ own1 = some k) w3 w6) := Lib.hid (((Hchg4.out).trans (Chg.of_below' (S := fun k => k = p ∨ own1 = some k) Hb5.out) (fun _ _ h => h)).trans (Chg.of_below' (S := fun k => k = p ∨ own1 = some k) Hb6.out) (fun _ _ h => h))
            have HN7 := Lib.hid ((HL3.out).stepM (by rw [← HN1.out]; exact hB) (by rw [← HM1.out]; exact hm) Hx.out Hfx.out (by rw [← Hnl.out, ← Hs.out]; exact hns) Hla.out.symm HS7.out Hown4.out HC7.out)
            have HW : Hid (nl + s = (now ++ bdata x).length) := Lib.hid (by rw [List.length_append, bdata_len HX.out (formed_eq Hfx.out).2.2.1, ← Hnl.out, ← Hs.out])
            clear HL3 HS4 Hown4 Hchg4 HB4 Hb5 HB5 Hb6 HS7 HC7 HL
            by_cases hcq : c2 = 32
            all_goals
              go_wp2
              go_roundw
              case rel => exact ⟨_, _, _, _, _, _, _, _, _, by rw [List.length_drop, ← HM1.out]; first | rw [if_pos hcq, hcq] | rw [if_neg hcq]; rfl, by rw [← HW.out]; simp, by rw [Hwh.out], HN7.out⟩
              case measure => show m1 - 32 < m1; omega
      · have d1 : decide ((N1 : Int) < 16384) = true := by simp; omega
        have d2 : decide (32 ≤ (m1 : Int)) = false := by simp; omega
        have HD : Hid (rs = opn b) := Lib.hid ((HL.out).done (.inr (.inl (by rw [← HM1.out]; omega))))
        have HP := Lib.hid (openPost_of HL.out HD.out)
        rw [← Hwh.out] at HP
        go_wp2
        go_ret
        exact HP.out
    · have d1 : decide ((N1 : Int) < 16384) = false := by simp; omega
      have HD : Hid (rs = opn b) := Lib.hid ((HL.out).done (.inl (by rw [← HN1.out]; omega)))
      have HP := Lib.hid (openPost_of HL.out HD.out)
      rw [← Hwh.out] at HP
      go_wp2
      go_ret
      exact HP.out
end Go.Proofs.Ytabnlnhnefjebaa
