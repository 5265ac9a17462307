/-
  Chapter 10: the spans of a plan, of the program. The memory is that of the given program; no conditions.
-/
import Derived.Test.YtagkdkkpgcolkaaSh3
import Derived.Test.YtagkdkkpgcolkaaSh4r
namespace Go.Proofs.Ytagkdkkpgcolkaa
open Go.RowKit
set_option linter.unusedVariables false
set_option linter.unusedSimpArgs false
theorem infoIv : (Try.prog.info? 38).map (fun i => (i.zero, i.size, i.bytes)) = some (some (.agg #[.int .i64 0, .int .i64 0]), 2, 16) := by kernel_rfl
theorem undIv : Try.prog.underlying 56 = some (.slice 38) := by kernel_rfl
def SpansPost (o : Int) (zl : List (Int × Int)) (l : List T3) (w : World) (e : Ending) (w' : World) : Prop :=
  Below w.heap.size w w' ∧ ((¬ vE o zl l = 0 ∧ e = .returned (.tuple #[.slice none 0 0, .int .i64 (vE o zl l)])) ∨
    (vE o zl l = 0 ∧ ∃ A c n, n = l.length ∧ e = .returned (.tuple #[.slice A n c, .int .i64 0]) ∧ w'.ownsRow w.heap.size 38 2 (.slice A n c) n (flat2 (spL o zl l l.length))))
/-- the spans so far -/
structure SpanL (o : Int) (zl : List (Int × Int)) (l : List T3) (w : World) (zA : Option Addr) (zn zc : Nat) (k : Nat) (A : Option Addr) (c : Nat) (wr : World) : Prop where
  ok : vTo o zl l k = 0
  row : wr.ownsRow (w.heap.size + 1) 38 2 (.slice A k c) k (flat2 (spL o zl l k))
  zone : Blk wr w.heap.size 25 #[.int .i64 o, .slice zA zn zc]
  bel : Below w.heap.size w wr
section
variable {o : Int} {zl : List (Int × Int)} {zA : Option Addr} {zc zn : Nat} {ze : Int} {w W : World}
theorem cvalid_at (hn : Hid (zn = zl.length)) (he : Hid (ze = zerr o zl)) (hr : RdP W W.heap.size zA zl) (hl : Hid (zl.length ≤ 9223372036854775807)) : Calls Try.prog 32 #[.agg #[.int .i64 o, .slice zA zn zc]] W (RetI ze W) := by
  rw [hn.out, he.out]; exact cvalid_any zA zc W.heap.size o zl W hr (Nat.le_refl _) hl.out
theorem rdP_up {A : Option Addr} {zl : List (Int × Int)} (h : Hid (RdP w w.heap.size A zl)) (hb : Below w.heap.size w W) : RdP W W.heap.size A zl := Rd.more (RdP.below h.out hb) hb.size
theorem rdT_up {A : Option Addr} {l : List T3} (h : Hid (RdT w w.heap.size A l)) (hb : Below w.heap.size w W) : RdT W W.heap.size A l := Rd.more (RdT.below h.out hb) hb.size
theorem span_at {d st mi a b e : Int} (hn : Hid (zn = zl.length)) (hr : RdP W W.heap.size zA zl) (hl : Hid (zl.length ≤ 9223372036854775807)) (ha : Hid (a = spA o zl d st mi)) (hb : Hid (b = spB o zl d st mi)) (he : Hid (e = spE o zl d st mi)) :
    Calls Try.prog 18 #[.agg #[.int .i64 o, .slice zA zn zc], .agg #[.int .i64 d, .int .i64 st, .int .i64 mi]] W (fun r w' => r = .returned (.tuple #[.agg #[.int .i64 a, .int .i64 b], .int .i64 e]) ∧ Below W.heap.size W w') := by
  rw [hn.out, ha.out, hb.out, he.out]; exact span_any o zA zc zl d st mi W hr hl.out
theorem rspan_at {d st mi a b e : Int} (hn : Hid (zn = zl.length)) (hr : RdP W W.heap.size zA zl) (hl : Hid (zl.length ≤ 9223372036854775807)) (ha : Hid (a = spA o zl d st mi)) (hb : Hid (b = spB o zl d st mi)) (he : Hid (e = spE o zl d st mi)) :
    Calls Try.prog 19 #[.agg #[.int .i64 o, .slice zA zn zc], .agg #[.int .i64 d, .int .i64 st, .int .i64 mi]] W (fun r w' => r = .returned (.tuple #[.agg #[.int .i64 a, .int .i64 b], .int .i64 e]) ∧ Below W.heap.size W w') := by
  rw [hn.out, ha.out, hb.out, he.out]; exact rspan_any o zA zc zl d st mi W hr hl.out
end
/-- the shift k in memory -/
theorem shift_cells {w W : World} {A : Option Addr} {l : List T3} (hr : Hid (RdT w w.heap.size A l)) (hb : Below w.heap.size w W) {k : Nat} (hk : k < l.length) : ∃ g off, A = some ⟨g, off, none⟩ ∧ W.cell? ⟨g, off + k * 3, none⟩ = some (.int .i64 (tA l k)) ∧ W.cell? ⟨g, off + k * 3 + 1, none⟩ = some (.int .i64 (tB l k)) ∧ W.cell? ⟨g, off + k * 3 + 2, none⟩ = some (.int .i64 (tC l k)) := by
  obtain ⟨g, off, e, hg, h0, h1, h2⟩ := hr.out.all (by omega)
  exact ⟨g, off, e, (hb.cell (p := ⟨g, off + k * 3, none⟩) hg).trans (h0 k hk), (hb.cell (p := ⟨g, off + k * 3 + 1, none⟩) hg).trans (h1 k hk), (hb.cell (p := ⟨g, off + k * 3 + 2, none⟩) hg).trans (h2 k hk)⟩
theorem own_base {a : World} {base base' : Nat} {e : TypeId} {size n : Nat} {v : Value} {xs : List Value} (h : a.ownsRow base e size v n xs) (hb : ∀ g, v.ownBlock = some g → base' ≤ g) : a.ownsRow base' e size v n xs := by
  refine ⟨h.1, ?_⟩
  rcases h.2 with h' | ⟨g, cap, cur, rfl, _, rest⟩
  · exact .inl h'
  · exact .inr ⟨g, cap, cur, rfl, hb g rfl, rest⟩
section
variable {o : Int} {zl : List (Int × Int)} {l : List T3} {w wr w' : World} {zA : Option Addr} {zn zc k : Nat} {A : Option Addr} {c : Nat}
theorem SpanL.below (h : SpanL o zl l w zA zn zc k A c wr) (hb : Below wr.heap.size wr w') : SpanL o zl l w zA zn zc k A c w' :=
  ⟨h.ok, World.ownsRow.kept h.row (Only.of_below hb wr.heap.size) (by
    cases hv : (Value.slice A k c).ownBlock with
    | none => exact .inl rfl
    | some g => right; intro e; injection e with e; have := (h.row.lt g hv).2; omega), h.zone.below hb h.zone.lt, h.bel.trans (hb.mono h.bel.size)⟩
theorem SpanL.addr (h : SpanL o zl l w zA zn zc k A c wr) (hk : 0 < k) : ∃ g, A = some ⟨g, 0, none⟩ := by
  obtain ⟨g, cap, hv, _, hlt⟩ := h.row.form hk
  injection hv with hA _ _
  exact ⟨g, hA⟩
theorem SpanL.last {g : Nat} (h : SpanL o zl l w zA zn zc k (some ⟨g, 0, none⟩) c wr) (hk : 0 < k) : wr.cell? ⟨g, (k - 1) * 2 + 1, none⟩ = some (.int .i64 (sB o zl l (k - 1))) := by
  have h1 := (flat2_get (spL o zl l k) (k - 1) (by rw [spL_len]; omega)).2
  rw [(spL_at k (k - 1) (by omega)).2] at h1
  have := h.row.cells (g := g) rfl _ _ h1
  rwa [Go.WideShapes.add_plain, Nat.zero_add] at this
theorem flat2_snoc' (s : List (Int × Int)) (x : Int × Int) : flat2 (s ++ [x]) = flat2 s ++ [.int .i64 x.1, .int .i64 x.2] := by simp [flat2]
theorem SpanL.next {a b : Int} {A' : Option Addr} {c' : Nat} {ob : Obj} (h : SpanL o zl l w zA zn zc k A c wr) (ha : Hid (a = sA o zl l k)) (hb : Hid (b = sB o zl l k)) (hn : Hid (vTo o zl l (k + 1) = 0))
    (ho : w'.ownsRow (w.heap.size + 1) 38 2 (.slice A' (k + 1) c') (k + 1) (flat2 (spL o zl l k) ++ [.int .i64 a, .int .i64 b])) (hbel : Below (w.heap.size + 1) (wr.alloc ob) w') : SpanL o zl l w zA zn zc (k + 1) A' c' w' := by
  have hlt := h.zone.lt
  refine ⟨hn.out, ?_, (h.zone.alloc ob).below hbel (by omega), (h.bel.alloc h.bel.size ob).trans (hbel.mono (by omega))⟩
  rw [spL, flat2_snoc', ← ha.out, ← hb.out]
  exact ho
end
theorem two_src (w : World) (t : TypeId) (a b : Value) : Src (w.alloc (.cells #[a, b] t)) 2 (some ⟨w.heap.size, 0, none⟩) 1 [a, b] := by
  refine ⟨rfl, fun _ => ⟨_, rfl, fun j u hu => ?_⟩⟩
  rw [Go.WideShapes.add_plain, (Blk.new w _ _).cell, Nat.zero_add]
  simpa using hu
theorem src_cells {w : World} {size m : Nat} {ad : Addr} {news : List Value} (h : Src w size (some ad) m news) (hm : 0 < m := by decide) : ∀ j u, news[j]? = some u → w.cell? (ad.add j) = some u := by
  obtain ⟨ad', e, hc⟩ := h.2 hm
  injection e with e
  subst e
  exact hc
theorem two_one (a b : Int) : ∀ u ∈ [Value.int .i64 a, Value.int .i64 b], u.oneCell' = true := by intro u hu; simp at hu; rcases hu with rfl | rfl <;> rfl
theorem spans_bad {o : Int} {zl : List (Int × Int)} {l : List T3} {w w' : World} {e : Int} (hv : vE o zl l = e) (he : ¬ e = 0) (hb : Below w.heap.size w w') : SpansPost o zl l w (.returned (.tuple #[.slice none 0 0, .int .i64 e])) w' := by
  subst hv; exact ⟨hb, .inl ⟨he, rfl⟩⟩
set_option maxRecDepth 100000 in
set_option maxHeartbeats 1600000 in
theorem spans_any (o : Int) (zA : Option Addr) (zc : Nat) (zl : List (Int × Int)) (A : Option Addr) (c : Nat) (l : List T3) (w : World) (hz : RdP w w.heap.size zA zl) (hzl : zl.length ≤ 9223372036854775807) (hr : RdT w w.heap.size A l) (hl : l.length ≤ 9223372036854775807) :
    Calls Try.prog 30 #[.agg #[.int .i64 o, .slice zA zl.length zc], .slice A l.length c] w (SpansPost o zl l w) := by
  have HZ := Lib.hid hz
  have HR := Lib.hid hr
  have HZL := Lib.hid hzl
  obtain ⟨iv, hiv, hiv0, hiv1, hiv2⟩ := info_parts infoIv
  have HIV := Lib.hid hiv
  have HIV0 := Lib.hid hiv0
  have HIV1 := Lib.hid hiv1
  have HIV2 := Lib.hid hiv2
  clear hiv hiv0 hiv1 hiv2
  obtain ⟨n, Hn⟩ : ∃ n, Hid (n = l.length) := ⟨_, Lib.hid rfl⟩
  obtain ⟨zn, Hzn⟩ : ∃ n, Hid (n = zl.length) := ⟨_, Lib.hid rfl⟩
  obtain ⟨ze, Hze⟩ : ∃ n, Hid (n = zerr o zl) := ⟨_, Lib.hid rfl⟩
  rw [← Hn.out, ← Hzn.out]
  rw [← Hn.out] at hl
  clear hz hr hzl
  by_cases hlong : 1024 < n
  · have hi : 1024 < (n : Int) := by omega
    have HV : Hid (vE o zl l = 3) := Lib.hid (by unfold vE; rw [if_pos (by rw [← Hn.out]; exact hlong)])
    go_enter Try.func30, Try.ntmps30
    go_wp2
    exact bodyPost_ret (v := .tuple #[.slice none 0 0, .int .i64 3]) (by simp [results, Try.results30, go_sem]) rfl (spans_bad HV.out (by decide) ((Below.refl _ _).alloc (Nat.le_refl _) _))
  · have hi : ¬ 1024 < (n : Int) := by omega
    have hb0 : ∀ ob, Below w.heap.size w (w.alloc ob) := fun ob => (Below.refl _ _).alloc (Nat.le_refl _) _
    have HB0 := Lib.hid hb0
    clear hb0
    by_cases hz0 : ze = 0
    · subst hz0
      go_enter Try.func30, Try.ntmps30
      go_wp2_with fail
      refine (cvalid_at Hzn Hze (rdP_up HZ (HB0.out _)) HZL).mono ?_
      rintro e w1 ⟨rfl, hb1⟩
      have HB1 := Lib.hid hb1
      clear hb1
      go_wp2
      have HL0 : Hid (SpanL o zl l w zA zn zc 0 none 0 w1) := Lib.hid ⟨rfl, World.ownsRow_nil _ _ _ _, (Blk.new _ _ _).below HB1.out (by simp), (HB0.out _).trans (HB1.out.mono (by simp))⟩
      go_loopw [7, 22] (fun v i wr => ∃ (k : Nat) (A7 : Option Addr) (c7 : Nat), k ≤ n ∧ i = .int .i64 k ∧ v = .slice A7 k c7 ∧ SpanL o zl l w zA zn zc k A7 c7 wr) (fun _ i _ => n - (intOf i).toNat)
      case atStart => exact ⟨0, none, 0, Nat.zero_le _, rfl, rfl, HL0.out⟩
      case round =>
        obtain ⟨k, A7, c7, hk, rfl, rfl, hL⟩ := hrel
        have HL := Lib.hid hL
        clear hL HL0
        by_cases hlt : k < n
        · have hkl : k < l.length := by rw [← Hn.out]; exact hlt
          obtain ⟨g, off, rfl, c0, c1, c2⟩ := shift_cells HR HL.out.bel hkl
          obtain ⟨d, Hd⟩ : ∃ d, Hid (d = tA l k) := ⟨_, Lib.hid rfl⟩
          obtain ⟨st, Hst⟩ : ∃ d, Hid (d = tB l k) := ⟨_, Lib.hid rfl⟩
          obtain ⟨mi, Hmi⟩ : ∃ d, Hid (d = tC l k) := ⟨_, Lib.hid rfl⟩
          obtain ⟨a, Ha⟩ : ∃ a, Hid (a = spA o zl d st mi) := ⟨_, Lib.hid rfl⟩
          obtain ⟨b, Hb⟩ : ∃ a, Hid (a = spB o zl d st mi) := ⟨_, Lib.hid rfl⟩
          obtain ⟨se, Hse⟩ : ∃ a, Hid (a = spE o zl d st mi) := ⟨_, Lib.hid rfl⟩
          rw [← Hd.out] at c0
          rw [← Hst.out] at c1
          rw [← Hmi.out] at c2
          have z0 : wr.cell? ⟨w.heap.size, 0, none⟩ = some (.int .i64 o) := HL.out.zone.cell 0
          have z1 : wr.cell? ⟨w.heap.size, 1, none⟩ = some (.slice zA zn zc) := HL.out.zone.cell 1
          have HSz : Hid (w.heap.size < wr.heap.size) := Lib.hid HL.out.zone.lt
          have hsz := HSz.out
          have HBr : Hid (Below w.heap.size w wr) := Lib.hid HL.out.bel
          have hbr : ∀ ob, Below w.heap.size w (wr.alloc ob) := fun ob => HBr.out.alloc HBr.out.size _
          have HBa := Lib.hid hbr
          have HSE : Hid (se = sE o zl l k) := Lib.hid (by rw [Hse.out, Hd.out, Hst.out, Hmi.out]; rfl)
          have HSA : Hid (a = sA o zl l k) := Lib.hid (by rw [Ha.out, Hd.out, Hst.out, Hmi.out]; rfl)
          have HSB : Hid (b = sB o zl l k) := Lib.hid (by rw [Hb.out, Hd.out, Hst.out, Hmi.out]; rfl)
          clear hbr
          by_cases he : se = 0
          · subst he
            go_wp2_with fail
            refine (span_at Hzn (rdP_up HZ (HBa.out _)) HZL Ha Hb Hse).mono ?_
            rintro e w2 ⟨rfl, hb2⟩
            have HB2 := Lib.hid hb2
            clear hb2 c0 c1 c2 z0 z1
            go_upto_region 13 with (fail)
            obtain ⟨w3, Hw3⟩ : ∃ w3, Hid (w3 = w2.alloc (.cells #[.int .i64 a, .int .i64 b] 38)) := ⟨_, Lib.hid rfl⟩
            rw [← Hw3.out]
            obtain ⟨g10, Hg10⟩ : ∃ g, Hid (g = w2.heap.size) := ⟨_, Lib.hid rfl⟩
            rw [← Hg10.out]
            have HB3 : Hid (Below wr.heap.size wr w3) := Lib.hid (by
              have h1 : Below wr.heap.size wr (wr.alloc (.cells #[.int .i64 d, .int .i64 st, .int .i64 mi] 42)) := (Below.refl _ _).alloc (Nat.le_refl _) _
              have h2 := h1.trans (HB2.out.mono h1.size)
              rw [Hw3.out]
              exact h2.alloc h2.size _)
            have HBlk : Hid (Blk w3 g10 38 #[.int .i64 a, .int .i64 b]) := Lib.hid (by rw [Hw3.out, Hg10.out]; exact Blk.new _ _ _)
            have HL3 := Lib.hid (HL.out.below HB3.out)
            clear Hw3 HB2 HL HBa
            by_cases hk0 : k = 0
            · subst hk0
              refine span_test0 13 (by kernel_rfl) rfl rfl rfl rfl rfl rfl rfl rfl rfl rfl rfl rfl rfl (show 55 ≤ 55 from by decide) (fun _ _ _ _ _ h => h) rfl ?_
              intro z0 z1 z2 z3 z4 z5 z6 z7 z8 z9 z10 z11 w4 hb4
              simp only [Act.put, List.setIfInBounds_toArray, List.set_cons_zero, List.set_cons_succ]
              have HN := Lib.hid (vTo_fine HL3.out.ok HSE.out.symm (by omega))
              have HL4 := Lib.hid (HL3.out.below hb4)
              have HBlk4 := Lib.hid (HBlk.out.below hb4 HBlk.out.lt)
              clear hb4 HL3 HBlk HB3
              have d0 : w4.cell? ⟨g10, 0, none⟩ = some (.int .i64 a) := HBlk4.out.cell 0
              have d1 : w4.cell? ⟨g10, 1, none⟩ = some (.int .i64 b) := HBlk4.out.cell 1
              have HSr : Hid (Src (w4.alloc (.cells #[.int .i64 a, .int .i64 b] 38)) 2 (some ⟨w4.heap.size, 0, none⟩) 1 [.int .i64 a, .int .i64 b]) := Lib.hid (two_src w4 _ _ _)
              go_wp2_with (at_builtin; refine wpList_append_sl _ rfl (.tmp 49) (.tmp 51) 56 rfl (w.heap.size + 1) 38 iv _ 2 16 undIv HIV.out HIV0.out HIV1.out HIV2.out rfl (by decide) _ _ 0 _ rfl (HL4.out.row.alloc _) ⟨w4.heap.size, 0, none⟩ 1 1 [.int .i64 a, .int .i64 b] rfl rfl (src_cells HSr.out) (two_one _ _) ?_ ?_ ?_ ?_)
              · unfold maxLen; omega
              · omega
              · have := HL4.out.zone.lt; simp; omega
              intro A8 c8 w5 Ho5 Hb5
              have HL5 := Lib.hid (HL4.out.next HSA HSB HN Ho5 Hb5)
              clear Ho5 Hb5 d0 d1 HSr
              go_wp2
              go_roundw
              case rel => exact ⟨0 + 1, A8, c8, by omega, by go_num, rfl, HL5.out⟩
              case measure => simp [intOf]; omega
            · have hkp : 0 < k := by omega
              obtain ⟨g7, rfl⟩ := HL3.out.addr hkp
              obtain ⟨tv, Htv⟩ : ∃ tv, Hid (tv = decide (a < sB o zl l (k - 1))) := ⟨_, Lib.hid rfl⟩
              refine span_test1 (x := a) (y := sB o zl l (k - 1)) 13 (by kernel_rfl) rfl rfl rfl rfl rfl rfl rfl rfl rfl rfl rfl rfl rfl (show 55 ≤ 55 from by decide) (fun _ _ _ _ _ h => h) Htv hkp (by omega) rfl rfl rfl (HBlk.out.cell 0) (HL3.out.last hkp) ?_
              intro z0 z1 z2 z3 z4 z5 z6 z7 z8 z9 z10 z11 w4 hb4
              simp only [Act.put, List.setIfInBounds_toArray, List.set_cons_zero, List.set_cons_succ]
              have HL4 := Lib.hid (HL3.out.below hb4)
              have HBlk4 := Lib.hid (HBlk.out.below hb4 HBlk.out.lt)
              clear hb4 HB3 HBlk
              cases tv with
              | true =>
                have hov : a < sB o zl l (k - 1) := by simpa using Htv.out.symm
                have HV : Hid (vE o zl l = 1) := Lib.hid (by
                  unfold vE
                  rw [if_neg (by rw [← Hn.out]; exact hlong), if_pos Hze.out.symm]
                  exact vTo_err HL3.out.ok (vTo_over HL3.out.ok HSE.out.symm hkp (by rw [← HSA.out]; exact hov)) (by decide) hkl)
                clear hov HL3
                go_wp2
                exact bodyPost_ret (v := .tuple #[.slice none 0 0, .int .i64 1]) (by simp [results, Try.results30, go_sem]) rfl (spans_bad HV.out (by decide) HL4.out.bel)
              | false =>
                have hov : ¬ a < sB o zl l (k - 1) := by simpa using Htv.out.symm
                have HN := Lib.hid (vTo_fine HL3.out.ok HSE.out.symm (by rw [← HSA.out]; exact fun h => hov h.2))
                clear hov HL3
                have d0 : w4.cell? ⟨g10, 0, none⟩ = some (.int .i64 a) := HBlk4.out.cell 0
                have d1 : w4.cell? ⟨g10, 1, none⟩ = some (.int .i64 b) := HBlk4.out.cell 1
                have HSr : Hid (Src (w4.alloc (.cells #[.int .i64 a, .int .i64 b] 38)) 2 (some ⟨w4.heap.size, 0, none⟩) 1 [.int .i64 a, .int .i64 b]) := Lib.hid (two_src w4 _ _ _)
                go_wp2_with (at_builtin; refine wpList_append_sl _ rfl (.tmp 49) (.tmp 51) 56 rfl (w.heap.size + 1) 38 iv _ 2 16 undIv HIV.out HIV0.out HIV1.out HIV2.out rfl (by decide) _ _ k _ rfl (HL4.out.row.alloc _) ⟨w4.heap.size, 0, none⟩ 1 1 [.int .i64 a, .int .i64 b] rfl rfl (src_cells HSr.out) (two_one _ _) ?_ ?_ ?_ ?_)
                · unfold maxLen; omega
                · omega
                · have := HL4.out.zone.lt; simp; omega
                intro A8 c8 w5 Ho5 Hb5
                have HL5 := Lib.hid (HL4.out.next HSA HSB HN Ho5 Hb5)
                clear Ho5 Hb5 d0 d1 HSr
                go_wp2
                go_roundw
                case rel => exact ⟨k + 1, A8, c8, by omega, by go_num, rfl, HL5.out⟩
                case measure => simp [intOf]; omega
          · have he1 : (se == 0) = false := by simpa using he
            have HV : Hid (vE o zl l = se) := Lib.hid (by
              unfold vE
              rw [if_neg (by rw [← Hn.out]; exact hlong), if_pos Hze.out.symm]
              exact vTo_err HL.out.ok (by rw [vTo_span HL.out.ok (by rw [← HSE.out]; exact he), HSE.out]) he hkl)
            have HE := Lib.hid he
            clear he
            go_wp2_with fail
            refine (span_at Hzn (rdP_up HZ (HBa.out _)) HZL Ha Hb Hse).mono ?_
            rintro e w2 ⟨rfl, hb2⟩
            have HB2 := Lib.hid hb2
            clear hb2
            go_wp2
            exact bodyPost_ret (v := .tuple #[.slice none 0 0, .int .i64 se]) (by simp [results, Try.results30, go_sem]) rfl (spans_bad HV.out HE.out (((HBa.out _).trans (HB2.out.mono (HBa.out _).size)).alloc (Nat.le_trans (HBa.out _).size HB2.out.size) _))
        · obtain rfl : k = n := by omega
          have HV : Hid (vE o zl l = 0) := Lib.hid (by
            unfold vE
            rw [if_neg (by rw [← Hn.out]; exact hlong), if_pos Hze.out.symm, ← Hn.out]
            exact HL.out.ok)
          go_wp2
          exact bodyPost_ret (v := .tuple #[.slice A7 k c7, .int .i64 0]) (by simp [results, Try.results30, go_sem]) rfl ⟨HL.out.bel, .inr ⟨HV.out, A7, c7, k, Hn.out, rfl, by rw [← Hn.out]; exact own_base HL.out.row (fun g e => by have := (HL.out.row.lt g e).1; omega)⟩⟩
    · have hz1 : (ze == 0) = false := by simpa using hz0
      have HV : Hid (vE o zl l = ze) := Lib.hid (by unfold vE; rw [if_neg (by rw [← Hn.out]; exact hlong), if_neg (by rw [← Hze.out]; exact hz0), Hze.out])
      have HZ0 := Lib.hid hz0
      clear hz0
      go_enter Try.func30, Try.ntmps30
      go_wp2_with fail
      refine (cvalid_at Hzn Hze (rdP_up HZ (HB0.out _)) HZL).mono ?_
      rintro e w1 ⟨rfl, hb1⟩
      have HB1 := Lib.hid hb1
      clear hb1
      go_wp2
      exact bodyPost_ret (v := .tuple #[.slice none 0 0, .int .i64 ze]) (by simp [results, Try.results30, go_sem]) rfl (spans_bad HV.out HZ0.out ((HB0.out _).trans (HB1.out.mono (by simp))))
end Go.Proofs.Ytagkdkkpgcolkaa
