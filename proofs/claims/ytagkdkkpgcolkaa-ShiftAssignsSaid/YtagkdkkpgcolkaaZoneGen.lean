/-
  The drawn zones: contract of Tape.Zone.
-/
import Derived.Test.YtagkdkkpgcolkaaTape
import Derived.Test.YtagkdkkpgcolkaaZone
import Derived.Test.YtagkdkkpgcolkaaPair
import Derived.Deep.RegionLaw
import Derived.Deep.RegionHeld3
import Derived.Deep.DeepCutAuto
namespace Go.Proofs.Ytagkdkkpgcolkaa
open Go.RowKit
set_option linter.unusedVariables false
set_option linter.unusedSimpArgs false

/-- a zone under way: the next change would begin at a -/
def ZGen (o : Int) (l : List (Int × Int)) (a : Int) : Prop :=
  l.length ≤ 3 ∧ offOk o ∧ 0 ≤ a ∧ a ≤ 29456700 + 4320 * l.length ∧ (∀ i, i < l.length → 0 ≤ fst2 l i ∧ fst2 l i ≤ 29456700 + 4320 * i ∧ fst2 l i < a ∧ offOk (snd2 l i)) ∧ ∀ i, i + 1 < l.length → fst2 l i < fst2 l (i + 1)
theorem zgen_nil {o a : Int} (h : offOk o) (h0 : 0 ≤ a) (h1 : a ≤ 29456700) : ZGen o [] a := ⟨by simp, h, h0, by simp; omega, fun i hi => by simp at hi, fun i hi => by simp at hi⟩
theorem zgen_step {o a v d : Int} {l : List (Int × Int)} (h : ZGen o l a) (hl : l.length < 3) (hv : offOk v) (hd : 1 ≤ d) (hd2 : d ≤ 4320) : ZGen o (l ++ [(a, v)]) (a + d) := by
  obtain ⟨h1, h2, h3, h4, h5, h6⟩ := h
  refine ⟨by simp; omega, h2, by omega, by simp; omega, fun i hi => ?_, fun i hi => ?_⟩
  · have hi' : i < l.length + 1 := by simpa using hi
    by_cases e : i = l.length
    · subst e; rw [fst2_last, snd2_last]; dsimp only; exact ⟨by omega, by omega, by omega, hv⟩
    · rw [fst2_front _ _ _ (by omega), snd2_front _ _ _ (by omega)]
      have := h5 i (by omega)
      exact ⟨this.1, this.2.1, by omega, this.2.2.2⟩
  · have hi' : i + 1 < l.length + 1 := by simpa using hi
    by_cases e : i + 1 = l.length
    · rw [e, fst2_last, fst2_front _ _ _ (by omega)]
      exact (h5 i (by omega)).2.2.1
    · rw [fst2_front _ _ _ (by omega), fst2_front _ _ _ (by omega)]
      exact h6 i (by omega)
theorem zgen_val {o a : Int} {l : List (Int × Int)} (h : ZGen o l a) : ZVal o l := by
  obtain ⟨h1, h2, h3, h4, h5, h6⟩ := h
  refine ⟨by omega, h2, fun i hi => ?_, h6⟩
  have := h5 i hi
  exact ⟨this.1, by omega, this.2.2.2⟩

def OwnZ (w : World) (base : Nat) (A : Option Addr) (c : Nat) (s : List (Int × Int)) : Prop := w.ownsRow base 68 2 (.slice A s.length c) s.length (flat2 s)
theorem OwnZ.alloc {w : World} {base : Nat} {A : Option Addr} {c : Nat} {s : List (Int × Int)} (h : OwnZ w base A c s) (o : Obj) : OwnZ (w.alloc o) base A c s := World.ownsRow.alloc h o
theorem OwnZ.only {w w' : World} {base g : Nat} {A : Option Addr} {c : Nat} {s : List (Int × Int)} (h : OwnZ w base A c s) (ho : Only g w w') (hg : g < base) : OwnZ w' base A c s :=
  World.ownsRow.kept h ho (.inr (fun e => by have := (World.ownsRow.lt h g e).1; omega))
theorem ownZ_snoc {w : World} {base : Nat} {A : Option Addr} {c : Nat} {s : List (Int × Int)} {x : Int × Int} (h : w.ownsRow base 68 2 (.slice A (s.length + 1) c) (s.length + 1) (flat2 s ++ [.int .i64 x.1, .int .i64 x.2])) : OwnZ w base A c (s ++ [x]) := by
  unfold OwnZ
  rw [flat2_snoc]
  simpa using h

/-- what holds of a world in the middle of the drawing -/
def ZS (w : World) (g : Nat) (M : Int) (z : Nat) (o : Int) (A : Option Addr) (c : Nat) (l : List (Int × Int)) (W : World) : Prop :=
  Deck W g M ∧ Only g w W ∧ OwnZ W (z + 1) A c l ∧ Blk W z 25 #[.int .i64 o, .slice A l.length c] ∧ Blk W w.heap.size 25 #[.int .i64 0, .slice none 0 0]
def ZSInt (P : Int → Prop) (w : World) (g : Nat) (M : Int) (z : Nat) (o : Int) (A : Option Addr) (c : Nat) (l : List (Int × Int)) (e : Ending) (w' : World) : Prop :=
  ∃ v, e = .returned (.int .i64 v) ∧ P v ∧ ZS w g M z o A c l w'
section
variable {w W w' : World} {g z c : Nat} {M M' o : Int} {A : Option Addr} {l : List (Int × Int)} {e : Ending} {P : Int → Prop}
theorem ZS.drew (h : ZS w g M z o A c l W) : ZS w g M z o A c l W.drew := ⟨h.1, h.2.1.drew, h.2.2.1, h.2.2.2.1, h.2.2.2.2⟩
theorem ZS.alloc {ob : Obj} (h : ZS w g M z o A c l W) : ZS w g M z o A c l (W.alloc ob) := ⟨h.1.alloc ob, h.2.1.alloc ob, h.2.2.1.alloc ob, h.2.2.2.1.alloc ob, h.2.2.2.2.alloc ob⟩
theorem ZS.zlt (h : ZS w g M z o A c l W) : z < W.heap.size := h.2.2.2.1.lt
theorem ZS.more (h : ZS w g M z o A c l W) (hM : M ≤ M') : ZS w g M' z o A c l W := ⟨h.1.more hM, h.2⟩
theorem DeckInt.zs (h : DeckInt P g M' W e w') (hgl : g < w.heap.size) (hgz : g < z) (hW : ZS w g M z o A c l W) : ZSInt P w g M' z o A c l e w' := by
  obtain ⟨v, he, hP, ho, hD⟩ := h
  exact ⟨v, he, hP, hD, hW.2.1.trans ho, hW.2.2.1.only ho (by omega), hW.2.2.2.1.grown ho (by intro e; injection e; omega), hW.2.2.2.2.grown ho (by intro e; injection e; omega)⟩
end
theorem pick_at (g : Nat) (N : Int) (l : List Int) (w : World) (gs : Nat) (hgs : gs = w.heap.size) (t : TypeId) (c : Nat) (hD : Deck w g N) (hN : N ≤ 1000000) (h0 : 0 < l.length) (hl : l.length ≤ 1000000) :
    Calls Try.prog 23 #[.pointer (some ⟨g, 0, none⟩), .slice (some ⟨gs, 0, none⟩) l.length c] (w.alloc (.cells (l.map (Value.int .i64)).toArray t)) (DeckInt (fun v => v ∈ l) g (N + 1) w) := by
  subst hgs
  exact pick_new g N l w t c hD hN h0 hl
theorem RdI.drew {w : World} {A : Option Addr} {l : List Int} (h : RdI w w.heap.size A l) : RdI w.drew w.drew.heap.size A l := h
theorem ints_one2 (a b : Int) : ∀ u ∈ ([.int .i64 a, .int .i64 b] : List Value), u.oneCell' = true := by simp [Value.oneCell']
theorem only_bel {w W W' : World} {g : Nat} (h : Only g w W) (hb : Below w.heap.size W W') : Only g w W' :=
  ⟨hb.os.trans h.os, hb.tape.trans h.tape, hb.output.trans h.output, Nat.le_trans h.size hb.size, fun i hi hne => (hb.block i hi).trans (h.block i hi hne)⟩
/-- after the append: the zone's cells are as they were; the row is longer -/
theorem app_zs {w W w' : World} {g z c cap g' : Nat} {M o a v : Int} {A : Option Addr} {l : List (Int × Int)} {ob : Obj} (hgl : g < w.heap.size) (hgz : w.heap.size < z) (h : ZS w g M z o A c l W)
    (hown : w'.ownsRow (z + 1) 68 2 (.slice (some ⟨g', 0, none⟩) (l.length + 1) cap) (l.length + 1) (flat2 l ++ [.int .i64 a, .int .i64 v])) (hgr : (W.alloc ob).grownBy w' (Value.slice A l.length c).ownBlock) :
    w'.cell? ⟨z, 1, none⟩ = some (.slice A l.length c) ∧ w'.frozen? ⟨z, 1, none⟩ = false ∧ ZS w g M z o (some ⟨g', 0, none⟩) cap (l ++ [(a, v)]) (w'.setCell ⟨z, 1, none⟩ (.slice (some ⟨g', 0, none⟩) (l.length + 1) cap)) := by
  have ha := h.alloc (ob := ob)
  have hne : ∀ b, b ≤ z → some b ≠ (Value.slice A l.length c).ownBlock := fun b hb e => by have := (World.ownsRow.lt ha.2.2.1 b e.symm).1; omega
  have hz : Blk w' z _ _ := ha.2.2.2.1.grown hgr (hne z (Nat.le_refl _))
  have hr : Blk w' w.heap.size _ _ := ha.2.2.2.2.grown hgr (hne _ (by omega))
  have hbel : Below (z + 1) (W.alloc ob) w' := (Below.refl (z + 1) _).grown hgr (by have := ha.zlt; omega) (fun k hk => (World.ownsRow.lt ha.2.2.1 k hk).1)
  have hs : Below z w' (w'.setCell ⟨z, 1, none⟩ (.slice (some ⟨g', 0, none⟩) (l.length + 1) cap)) := (Below.refl z w').setCell (p := ⟨z, 1, none⟩) (Nat.le_refl z) _
  refine ⟨by simpa using hz.cell 1, hz.frozen 1, (ha.1.below hbel (by omega)).below hs (by omega), ?_, ?_, ?_, hr.far (by show w.heap.size ≠ z; omega) _⟩
  · have h1 := only_bel ha.2.1 (hbel.mono (by omega))
    exact only_bel h1 (hs.mono (by omega))
  · exact World.ownsRow.kept (ownZ_snoc (x := (a, v)) hown) (((Only.refl z w').setCell (p := ⟨z, 1, none⟩) (.inl rfl) _)) (.inr (fun e => by have := (World.ownsRow.lt hown z e).1; omega))
  · have := hz.set_ 1 (.slice (some ⟨g', 0, none⟩) (l.length + 1) cap)
    simpa using this
theorem zs_end {w W : World} {g z c : Nat} {M o : Int} {A : Option Addr} {l : List (Int × Int)} (u0 u1 : Value) (hgl : g < w.heap.size) (hgz : w.heap.size < z) (h : ZS w g M z o A c l W) :
    RdP ((W.setCell ⟨w.heap.size, 0, none⟩ u0).setCell ⟨w.heap.size, 1, none⟩ u1) ((W.setCell ⟨w.heap.size, 0, none⟩ u0).setCell ⟨w.heap.size, 1, none⟩ u1).heap.size A l ∧
    Only g w ((W.setCell ⟨w.heap.size, 0, none⟩ u0).setCell ⟨w.heap.size, 1, none⟩ u1) ∧ Deck ((W.setCell ⟨w.heap.size, 0, none⟩ u0).setCell ⟨w.heap.size, 1, none⟩ u1) g M := by
  have ho : Only w.heap.size W ((W.setCell ⟨w.heap.size, 0, none⟩ u0).setCell ⟨w.heap.size, 1, none⟩ u1) := ((Only.refl w.heap.size W).setCell (p := ⟨w.heap.size, 0, none⟩) (.inl rfl) _).setCell (p := ⟨w.heap.size, 1, none⟩) (.inl rfl) _
  exact ⟨own_rd2 (h.2.2.1.only ho (by omega)), (h.2.1.setCell (p := ⟨w.heap.size, 0, none⟩) (.inr (Nat.le_refl _)) _).setCell (p := ⟨w.heap.size, 1, none⟩) (.inr (Nat.le_refl _)) _, h.1.only ho hgl⟩
theorem infoCC : (Try.prog.info? 68).map (fun i => (i.zero, i.size, i.bytes)) = some (some (.agg #[.int .i64 0, .int .i64 0]), 2, 16) := by kernel_rfl
/-- the result: a drawn zone, in memory of the call's own -/
def ZonePost (g : Nat) (N : Int) (w : World) (e : Ending) (w' : World) : Prop :=
  ∃ o A c l a, e = .returned (.agg #[.int .i64 o, .slice A l.length c]) ∧ ZGen o l a ∧ RdP w' w'.heap.size A l ∧ (∀ b off, A = some ⟨b, off, none⟩ → w.heap.size ≤ b) ∧ Only g w w' ∧ Deck w' g N

set_option maxHeartbeats 800000 in
theorem zone_any (g : Nat) (N : Int) (w : World) (hD : Deck w g N) (hN : N ≤ 800000) :
    Calls Try.prog 9 #[.pointer (some ⟨g, 0, none⟩)] w (ZonePost g (N + 20) w) := by
  have hgl := hD.lt
  obtain ⟨i0, hi, hz0, hz1, hz2⟩ := info_parts infoCC
  go_enter Try.func9, Try.ntmps9
  go_wp2_with fail
  refine (pick_at g N [0, 60, -300, 840, -840, 570] (w.alloc (.cells #[.int .i64 0, .slice none 0 0] 25)) (w.heap.size + 1) (by simp) 3 6 (hD.alloc _) (by omega) (by decide) (by decide)).mono ?_
  rintro e w1 ⟨o, rfl, ho, hon, hD'⟩
  have hob : offOk o := by unfold offOk; simp at ho; omega
  have HO1 := Lib.hid (((Only.refl g w).alloc _).trans hon)
  have HD1 := Lib.hid hD'
  have HR1 := Lib.hid ((Blk.new w 25 #[.int .i64 0, .slice none 0 0]).grown hon (by intro e; injection e; omega))
  have hs1 := hon.size
  simp at hs1
  clear hD hon hD' ho
  go_wp2_with fail
  refine (pick_at g (N + 1) [0, 29453760, 29455200, 29456700, 29453060] (w1.alloc (.cells #[.int .i64 o, .slice none 0 0] 25)) (w1.heap.size + 1) (by simp) 3 5 (HD1.out.alloc _) (by omega) (by decide) (by decide)).mono ?_
  rintro e w2 ⟨a0, rfl, ha, hon, hD'⟩
  have hab : 0 ≤ a0 ∧ a0 ≤ 29456700 := by simp at ha; omega
  have HZ2 : Hid (ZS w g (N + 2) w1.heap.size o none 0 [] w2) := Lib.hid ⟨hD'.more (by omega), (HO1.out.alloc _).trans hon, World.ownsRow_nil _ _ _ _, (Blk.new w1 _ _).grown hon (by intro e; injection e; omega), (HR1.out.alloc _).grown hon (by intro e; injection e; omega)⟩
  have hs2 := hon.size
  simp at hs2
  clear hon hD' ha HO1 HD1 HR1
  generalize w1.heap.size = z at *
  go_wp2_with fail
  refine ((next_any g (N + 2) _ _ HZ2.out.1 (by omega) (by omega) (by omega)).mono ?_)
  intro e w3 h3
  obtain ⟨k0, rfl, hk0, hz3⟩ := h3.zs hgl (by omega) HZ2.out
  have HZ3 := Lib.hid hz3
  have HG3 := Lib.hid (zgen_nil hob hab.1 hab.2)
  clear hz3 h3 HZ2 hs2
  go_wp2
  go_loopw [4, 5] (fun av kv wr => ∃ (a k : Int) (A : Option Addr) (c : Nat) (l : List (Int × Int)), av = .int .i64 a ∧ kv = .int .i64 k ∧ 0 ≤ k ∧ (l.length : Int) + k ≤ 3 ∧ ZGen o l a ∧ ZS w g (N + 3 + 2 * l.length) z o A c l wr) (fun _ k _ => (intOf k).toNat)
  case atStart => exact ⟨a0, k0, none, 0, [], rfl, rfl, hk0.1, by simp; omega, HG3.out, HZ3.out.more (by simp; omega)⟩
  case round =>
    obtain ⟨a, k, A, c, l, rfl, rfl, hk, hlk, hgen, hst⟩ := hrel
    have HGN := Lib.hid hgen
    have HST := Lib.hid hst
    obtain ⟨hg1, hg2, hg3, hg4, _, _⟩ := hgen
    have hzl := hst.zlt
    have c1 := hst.2.2.2.1.cell 1
    have c0 := hst.2.2.2.1.cell 0
    have r1 := hst.2.2.2.2.cell 1
    have r0 := hst.2.2.2.2.cell 0
    have f0 := hst.2.2.2.2.frozen 0
    have f1 := hst.2.2.2.2.frozen 1
    simp at c0 c1 r0 r1
    clear hst HZ3 HG3
    by_cases hgo : 0 < k
    · have hb1 : Hid (l.length + 1 ≤ maxLen) := Lib.hid (by unfold maxLen; omega)
      have hb2 : Hid ((l.length + 1) * 16 ≤ 140737488355328) := Lib.hid (by omega)
      go_upto_region 6 with (fail)
      have HP6 : Hid (∀ (W : World) (gs : Nat), ZS w g (N + 3 + 2 * l.length) z o A c l W → RdI W W.heap.size (some ⟨gs, 0, none⟩) [60, 120, 0, -300, 840, -840] → gs ≠ g →
          Calls Try.prog 23 #[.pointer (some ⟨g, 0, none⟩), .slice (some ⟨gs, 0, none⟩) 6 6] W (ZSInt offOk w g (N + 3 + 2 * l.length + 1) z o A c l)) :=
        Lib.hid (fun W gs hW hr hne => (pick_any g (N + 3 + 2 * l.length) _ 6 _ [60, 120, 0, -300, 840, -840] W hW.1 (by omega) hr (Nat.le_refl _) (fun b off e => by injection e with e; injection e with e; omega) (by simp) (by simp)).mono (fun e w' h => by
          refine DeckInt.zs (P := offOk) ?_ hgl (by omega) hW
          obtain ⟨u, e1, e2, e3, e4⟩ := h
          exact ⟨u, e1, by unfold offOk; simp at e2; omega, e3, e4⟩))
      go_cut [] (fun wx => ∃ (A' : Option Addr) (c' : Nat) (v : Int), offOk v ∧ ZS w g (N + 3 + 2 * l.length + 1) z o A' c' (l ++ [(a, v)]) wx)
      case first =>
        go_region_law (first
          | (refine step_append_lies _ (by rfl) _ _ _ (by rfl) (z + 1) 68 i0 _ 2 16 Try.underlying23 hi hz0 hz1 hz2 rfl (by omega) (.slice A l.length c) l.length (flat2 l) (by rfl) (HS6.out.2.2.1.alloc _) ⟨w6.heap.size, 0, none⟩ 1 1 [.int .i64 a, .int .i64 v6] (by rfl) (by rfl) (World.news_of_block (cs := #[.int .i64 a, .int .i64 v6]) (t := 68) (fr := (0, 0)) (heap_alloc_new w6 _)) (ints_one2 a v6) (by omega) hb1.out hb2.out hb3 (w6.heap.size + 1) (by simp) ?_; intro g7 cap w7 hown7 hgrow7 hat7 hlt7; have HA7 := Lib.hid (app_zs hgl (by omega) HS6.out hown7 hgrow7); have q1 := HA7.out.1; have q2 := HA7.out.2.1; clear hown7 hgrow7 hat7)
          | (go_simp; go_at_call 23; refine (HP6.out _ _ ?_ ?_ ?_).mono ?_; (repeat (first | exact HST.out | apply ZS.alloc | apply ZS.drew)); (first | exact (rdI_at _ _ _ _ rfl).up.drew | exact (rdI_at _ _ _ _ rfl).up); omega; rintro e w6 ⟨v6, rfl, hv6, hst6⟩; have HS6 := Lib.hid hst6; have z6 := hst6.zlt; have c6 := hst6.2.2.2.1.cell 1; (simp at c6); have hb3 : z + 1 ≤ (w6.alloc (.cells #[.int .i64 a, .int .i64 v6] 68)).heap.size := (by simp; omega); clear hst6; go_wp2_with fail))
        all_goals go_wp2_with fail
        all_goals go_meet
        all_goals exact ⟨_, _, _, hv6, HA7.out.2.2⟩
      case rest =>
        obtain ⟨A', c', v, hv, hst⟩ := hcut
        have HS := Lib.hid hst
        have HG' : Hid (∀ d, 1 ≤ d → d ≤ 4320 → ZGen o (l ++ [(a, v)]) (a + d)) := Lib.hid (fun d h1 h2 => zgen_step HGN.out (by omega) hv h1 h2)
        clear hst HST HGN HP6 c0 c1 r0 r1 f0 f1
        go_wp2_with fail
        refine (pick_new g (N + 3 + 2 * l.length + 1) [60, 1440, 30, 4320, 1] _ 3 5 HS.out.1 (by omega) (by decide) (by decide)).mono ?_
        intro e w8 h8
        obtain ⟨d, rfl, hd, hz8⟩ := h8.zs hgl (by omega) HS.out
        have hd' : 1 ≤ d ∧ d ≤ 4320 := by simp at hd; omega
        have HZ8 := Lib.hid hz8
        clear hz8 h8 HS hd
        have hgn : Hid (ZGen o (l ++ [(a, v)]) (a + d)) := Lib.hid (HG'.out d hd'.1 hd'.2)
        clear HG'
        go_wp2
        go_roundw
        case rel => exact ⟨a + d, k - 1, A', c', l ++ [(a, v)], rfl, rfl, by omega, by simp; omega, hgn.out, HZ8.out.more (by simp; omega)⟩
        case measure => simp [intOf]; omega
    · have HLT : Hid (∀ b off, A = some ⟨b, off, none⟩ → w.heap.size ≤ b) := Lib.hid (by
        rintro b off rfl
        have := (World.ownsRow.lt HST.out.2.2.1 b rfl).1
        omega)
      have HEND := Lib.hid (zs_end (.int .i64 o) (.slice A l.length c) hgl (by omega) HST.out)
      go_wp2
      exact bodyPost_ret (v := .agg #[.int .i64 o, .slice A l.length c]) (by simp [results, Try.results9, go_sem, r0, r1]) rfl ⟨o, A, c, l, a, rfl, HGN.out, HEND.out.1, HLT.out, HEND.out.2.1, HEND.out.2.2.more (by omega)⟩
end Go.Proofs.Ytagkdkkpgcolkaa
