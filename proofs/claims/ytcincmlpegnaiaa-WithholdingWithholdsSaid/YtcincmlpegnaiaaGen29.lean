/-
  The drawn schedules: contracts of Brackets and income.
-/
import Derived.Test.YtcincmlpegnaiaaDeck
import Derived.Test.YtcincmlpegnaiaaScale29
import Derived.Deep.RegionHeld3
import Derived.Deep.RegionWith
import Derived.Deep.DeepCutAuto
namespace Go.Proofs.Ytcincmlpegnaiaa
open Go.RowKit
set_option linter.unusedVariables false
set_option linter.unusedSimpArgs false

/-- a drawn schedule: k more brackets can come -/
def Gen (b : Bool) (l : List (Int × Int)) : Prop :=
  1 ≤ l.length ∧ l.length ≤ 4 ∧ fst2 l 0 = 0 ∧ (∀ i, i < l.length → 0 ≤ fst2 l i ∧ fst2 l i ≤ 3000000 * i ∧ 0 ≤ snd2 l i ∧ snd2 l i ≤ 1000000) ∧ (∀ i, i + 1 < l.length → fst2 l i < fst2 l (i + 1)) ∧
  (b = true → (∀ i, i < l.length → snd2 l i ≤ 450000) ∧ ∀ i, i + 1 < l.length → snd2 l i ≤ snd2 l (i + 1))
theorem gen_val {b : Bool} {l : List (Int × Int)} (h : Gen b l) : Val l := by
  obtain ⟨h1, h2, h3, h4, h5, _⟩ := h
  refine ⟨h1, by omega, h3, fun i hi => ?_⟩
  have a := h4 i hi
  refine ⟨fun hp => ?_, by omega, by omega, by omega⟩
  have := h5 (i - 1) (by omega)
  rwa [show i - 1 + 1 = i by omega] at this

/-- the schedule, in memory of the call's own; the deck has moved on -/
def GenPost (b : Bool) (g : Nat) (N : Int) (w : World) (e : Ending) (w' : World) : Prop :=
  ∃ A c l, e = .returned (.slice A l.length c) ∧ Gen b l ∧ OwnP w' w.heap.size A c l ∧ Only g w w' ∧ Deck w' g N

theorem OwnP.only {w w' : World} {base g : Nat} {A : Option Addr} {c : Nat} {s : List (Int × Int)} (h : OwnP w base A c s) (ho : Only g w w') (hg : g < base) : OwnP w' base A c s :=
  World.ownsRow.kept h ho (.inr (fun e => by have := (World.ownsRow.lt h g e).1; omega))
theorem own_first (w : World) (base : Nat) (x : Int) (hb : base ≤ w.heap.size) : OwnP (w.alloc (.cells #[.int .i64 0, .int .i64 x] 54)) base (some ⟨w.heap.size, 0, none⟩) 1 [(0, x)] :=
  World.ownsRow_lit w #[.int .i64 0, .int .i64 x] 1 hb (by simp [maxLen]) rfl
theorem gen_first {b : Bool} {x : Int} (h0 : 0 ≤ x) (h1 : x ≤ 150000) : Gen b [(0, x)] := by
  refine ⟨by simp, by simp, rfl, fun i hi => ?_, fun i hi => by simp at hi, fun _ => ⟨fun i hi => ?_, fun i hi => by simp at hi⟩⟩
  · have : i = 0 := by simpa using hi
    subst this
    exact ⟨by simp [fst2], by simp [fst2], by simpa [snd2] using h0, by simp [snd2]; omega⟩
  · have : i = 0 := by simpa using hi
    subst this
    simp [snd2]; omega
theorem gen_last {b : Bool} {s : List (Int × Int)} {y : Int × Int} (h : Gen b (s ++ [y])) : 0 ≤ y.1 ∧ y.1 ≤ 3000000 * s.length ∧ 0 ≤ y.2 ∧ y.2 ≤ 1000000 ∧ (b = true → y.2 ≤ 450000) := by
  have := h.2.2.2.1 s.length (by simp)
  rw [fst2_snoc, snd2_snoc] at this
  refine ⟨this.1, this.2.1, this.2.2.1, this.2.2.2, fun hb => ?_⟩
  have := (h.2.2.2.2.2 hb).1 s.length (by simp)
  rwa [snd2_snoc] at this
theorem fst2_lt (s : List (Int × Int)) (x : Int × Int) (i : Nat) (h : i < s.length) : fst2 (s ++ [x]) i = fst2 s i := by simp [fst2, List.getElem?_append, h]
theorem snd2_lt (s : List (Int × Int)) (x : Int × Int) (i : Nat) (h : i < s.length) : snd2 (s ++ [x]) i = snd2 s i := by simp [snd2, List.getElem?_append, h]
theorem gen_step {b : Bool} {s : List (Int × Int)} {y x : Int × Int} (h : Gen b (s ++ [y])) (hl : s.length + 1 < 4) (h1 : y.1 < x.1) (h2 : x.1 ≤ y.1 + 3000000) (h3 : 0 ≤ x.2) (h4 : x.2 ≤ 1000000) (h5 : b = true → y.2 ≤ x.2 ∧ x.2 ≤ 450000) : Gen b (s ++ [y] ++ [x]) := by
  have hy := gen_last h
  obtain ⟨a1, a2, a3, a4, a5, a6⟩ := h
  have hlen : (s ++ [y]).length = s.length + 1 := by simp
  have hlast : fst2 (s ++ [y]) s.length = y.1 := fst2_snoc s y
  have hlast2 : snd2 (s ++ [y]) s.length = y.2 := snd2_snoc s y
  have n1 : fst2 (s ++ [y] ++ [x]) (s.length + 1) = x.1 := by rw [← hlen]; exact fst2_snoc _ x
  have n2 : snd2 (s ++ [y] ++ [x]) (s.length + 1) = x.2 := by rw [← hlen]; exact snd2_snoc _ x
  refine ⟨by simp, by simp; omega, by rw [fst2_lt _ _ _ (by omega)]; exact a3, fun i hi => ?_, fun i hi => ?_, fun hb => ⟨fun i hi => ?_, fun i hi => ?_⟩⟩
  · have hi' : i < s.length + 1 + 1 := by simpa using hi
    by_cases e : i = s.length + 1
    · subst e; rw [n1, n2]; omega
    · rw [fst2_lt _ _ _ (by omega), snd2_lt _ _ _ (by omega)]; exact a4 i (by omega)
  · have hi' : i + 1 < s.length + 1 + 1 := by simpa using hi
    by_cases e : i = s.length
    · subst e; rw [n1, fst2_lt _ _ _ (by omega), hlast]; exact h1
    · rw [fst2_lt (s ++ [y]) x i (by omega), fst2_lt (s ++ [y]) x (i + 1) (by omega)]; exact a5 i (by omega)
  · have hi' : i < s.length + 1 + 1 := by simpa using hi
    by_cases e : i = s.length + 1
    · subst e; rw [n2]; exact (h5 hb).2
    · rw [snd2_lt (s ++ [y]) x i (by omega)]; exact (a6 hb).1 i (by omega)
  · have hi' : i + 1 < s.length + 1 + 1 := by simpa using hi
    by_cases e : i = s.length
    · subst e; rw [n2, snd2_lt _ _ _ (by omega), hlast2]; exact (h5 hb).1
    · rw [snd2_lt (s ++ [y]) x i (by omega), snd2_lt (s ++ [y]) x (i + 1) (by omega)]; exact (a6 hb).2 i (by omega)

/-- what holds of a world in the middle of a round: the deck, the old memory, the row so far, the last bracket's copy -/
def St (w : World) (g : Nat) (M : Int) (gb c : Nat) (l : List (Int × Int)) (z : Nat) (y : Int × Int) (W : World) : Prop :=
  Deck W g M ∧ Only g w W ∧ OwnP W w.heap.size (some ⟨gb, 0, none⟩) c l ∧ W.cell? ⟨z, 0, none⟩ = some (.int .i64 y.1) ∧ W.cell? ⟨z, 1, none⟩ = some (.int .i64 y.2) ∧ z < W.heap.size
def StInt (P : Int → Prop) (w : World) (g : Nat) (M : Int) (gb c : Nat) (l : List (Int × Int)) (z : Nat) (y : Int × Int) (W : World) (e : Ending) (w' : World) : Prop :=
  ∃ v, e = .returned (.int .i64 v) ∧ P v ∧ St w g M gb c l z y w' ∧ Only g W w'
section
variable {w W w' : World} {g gb c z : Nat} {M M' : Int} {l : List (Int × Int)} {y : Int × Int} {e : Ending} {P : Int → Prop}
theorem St.drew (h : St w g M gb c l z y W) : St w g M gb c l z y W.drew := ⟨h.1, h.2.1.drew, h.2.2.1, h.2.2.2.1, h.2.2.2.2.1, h.2.2.2.2.2⟩
theorem St.alloc {o : Obj} (h : St w g M gb c l z y W) : St w g M gb c l z y (W.alloc o) :=
  ⟨h.1.alloc o, h.2.1.alloc o, h.2.2.1.alloc o, (World.cell?_alloc_lt W o ⟨z, 0, none⟩ h.2.2.2.2.2).trans h.2.2.2.1, (World.cell?_alloc_lt W o ⟨z, 1, none⟩ h.2.2.2.2.2).trans h.2.2.2.2.1, by have := h.2.2.2.2.2; simp; omega⟩
theorem St.more (h : St w g M gb c l z y W) (hM : M ≤ M') : St w g M' gb c l z y W := ⟨h.1.more hM, h.2⟩
theorem St.ne (h : St w g M gb c l z y W) (hg : g < z) : ¬ W.heap.size = g := by have := h.2.2.2.2.2; omega
theorem DeckInt.st (hgl : g < w.heap.size) (hgz : g < z) (hW : St w g M gb c l z y W) (h : DeckInt P g M' W e w') : StInt P w g M' gb c l z y W e w' := by
  obtain ⟨v, he, hP, ho, hD⟩ := h
  have hne : (some z : Option Nat) ≠ some g := by intro e; injection e; omega
  exact ⟨v, he, hP, ⟨hD, hW.2.1.trans ho, hW.2.2.1.only ho hgl, ho.cell hW.2.2.2.1 hne, ho.cell hW.2.2.2.2.1 hne, Nat.lt_of_lt_of_le hW.2.2.2.2.2 ho.size⟩, ho⟩
theorem only_cells (h : Only g W w') : ∀ b o, b < W.heap.size → ¬ b = g → w'.cell? ⟨b, o, none⟩ = W.cell? ⟨b, o, none⟩ :=
  fun b o hb hne => World.cell?_of_block (h.block b hb (fun e => by injection e; exact hne (by assumption)))
theorem only_frozen (h : Only g W w') : ∀ b o, b < W.heap.size → ¬ b = g → w'.frozen? ⟨b, o, none⟩ = W.frozen? ⟨b, o, none⟩ :=
  fun b o hb hne => World.frozen?_of_block (h.block b hb (fun e => by injection e; exact hne (by assumption)))
end
theorem DeckInt.st' {w W w' : World} {g gb c z : Nat} {M M' : Int} {l : List (Int × Int)} {y : Int × Int} {e : Ending} {P : Int → Prop} (h : DeckInt P g M' W e w') (hgl : g < w.heap.size) (hgz : g < z) (hW : St w g M gb c l z y W) : StInt P w g M' gb c l z y W e w' := DeckInt.st hgl hgz hW h
theorem rdI_at (w : World) (l : List Int) (t : TypeId) (gs : Nat) (h : gs = w.heap.size) : RdI (w.alloc (.cells (l.map (Value.int .i64)).toArray t)) (w.heap.size + 1) (some ⟨gs, 0, none⟩) l := by subst h; exact rdI_new w l t
theorem RdI.up {w : World} {l : List Int} {A : Option Addr} {o : Obj} (h : RdI (w.alloc o) (w.heap.size + 1) A l) : RdI (w.alloc o) (w.alloc o).heap.size A l := Rd.more h (by simp)
theorem RdI.up2 {w : World} {l : List Int} {A : Option Addr} {o o' : Obj} (h : RdI (w.alloc o) (w.heap.size + 1) A l) : RdI ((w.alloc o).alloc o') ((w.alloc o).alloc o').heap.size A l :=
  Rd.more (Rd.below h ((Below.refl _ _).alloc (by simp) o')) (by simp)
theorem keep_set {W : World} {p q : Addr} {u v : Value} (h : W.cell? q = some v) (hne : q ≠ p) : (W.setCell p u).cell? q = some v := (World.cell?_setCell_other W p q u (Ne.symm hne)).trans h
/-- what a round's new bracket looks like before it is appended -/
def CutB (w : World) (g : Nat) (M : Int) (gb c : Nat) (l : List (Int × Int)) (z : Nat) (y : Int × Int) (s8 : Value) (W : World) : Prop :=
  ∃ (bb : Nat) (f r : Int), s8 = .pointer (some ⟨bb, 0, none⟩) ∧ St w g M gb c l z y W ∧ W.cell? ⟨bb, 0, none⟩ = some (.int .i64 f) ∧ W.cell? ⟨bb, 1, none⟩ = some (.int .i64 r) ∧ W.frozen? ⟨bb, 1, none⟩ = false ∧
    z < bb ∧ bb < W.heap.size ∧ y.1 < f ∧ f ≤ y.1 + 3000000 ∧ 0 ≤ r ∧ r ≤ 1000000

/-- the new bracket, its rate drawn anew -/
def CutC (w : World) (g : Nat) (M : Int) (gb c : Nat) (l : List (Int × Int)) (z : Nat) (y : Int × Int) (bb : Nat) (f : Int) (W : World) : Prop :=
  ∃ (r : Int), St w g M gb c l z y W ∧ W.cell? ⟨bb, 0, none⟩ = some (.int .i64 f) ∧ W.cell? ⟨bb, 1, none⟩ = some (.int .i64 r) ∧ 0 ≤ r ∧ r ≤ 1000000 ∧ y.2 ≤ r ∧ r ≤ 450000
section
variable {w W : World} {g gb c z bb : Nat} {M : Int} {l : List (Int × Int)} {y : Int × Int} {f r : Int}
theorem cutB_new (h : St w g M gb c l z y W) (hz : w.heap.size ≤ z) (hgb : gb < z) (hf1 : y.1 < f) (hf2 : f ≤ y.1 + 3000000) (hr1 : 0 ≤ r) (hr2 : r ≤ 1000000) :
    CutB w g M gb c l z y (.pointer (some ⟨W.heap.size, 0, none⟩)) (W.alloc (.cells #[.int .i64 f, .int .i64 r] 54)) := by
  have hzs := h.2.2.2.2.2
  exact ⟨W.heap.size, f, r, rfl, h.alloc, (Blk.new _ _ _).cell 0, (Blk.new _ _ _).cell 1, (Blk.new _ _ _).frozen 1, by omega, by simp, hf1, hf2, hr1, hr2⟩
theorem St.set {p : Addr} {u : Value} (h : St w g M gb c l z y W) (hp : z < p.block) (hgb : gb < z) (hz : w.heap.size ≤ z) (hg : g < w.heap.size) : St w g M gb c l z y (W.setCell p u) := by
  have ho : Only p.block W (W.setCell p u) := (Only.refl p.block W).setCell (.inl rfl) u
  have hb : Below w.heap.size W (W.setCell p u) := (Below.refl _ _).setCell (by omega) u
  refine ⟨h.1.below hb hg, h.2.1.setCell (.inr (by omega)) u, World.ownsRow.kept h.2.2.1 ho (.inr (fun e => by simp [Value.ownBlock] at e; omega)), keep_set h.2.2.2.1 (fun e => by rw [← e] at hp; simp at hp), keep_set h.2.2.2.2.1 (fun e => by rw [← e] at hp; simp at hp), by have := h.2.2.2.2.2; simpa [World.setCell] using this⟩
theorem cutB_set {u0 u1 : Value} (h : St w g M gb c l z y W) (hbz : z < bb) (hbs : bb < W.heap.size) (hgb : gb < z) (hz : w.heap.size ≤ z) (hg : g < w.heap.size) (hf1 : y.1 < f) (hf2 : f ≤ y.1 + 3000000) (hr1 : 0 ≤ r) (hr2 : r ≤ 1000000)
    (k0 : W.cell? ⟨bb, 0, none⟩ = some u0) (k1 : W.cell? ⟨bb, 1, none⟩ = some u1) (kf : W.frozen? ⟨bb, 1, none⟩ = false) :
    CutB w g M gb c l z y (.pointer (some ⟨bb, 0, none⟩)) ((W.setCell ⟨bb, 0, none⟩ (.int .i64 f)).setCell ⟨bb, 1, none⟩ (.int .i64 r)) := by
  refine ⟨bb, f, r, rfl, (h.set hbz hgb hz hg).set hbz hgb hz hg, ?_, ?_, ?_, by omega, by simpa [World.setCell] using hbs, hf1, hf2, hr1, hr2⟩
  · exact keep_set (World.cell?_setCell_same _ _ _ k0) (by intro e; injection e; omega)
  · exact World.cell?_setCell_same _ _ _ (keep_set k1 (by intro e; injection e; omega))
  · simpa using kf
end

theorem only_below {w W W' : World} {g : Nat} (h : Only g w W) (hb : Below w.heap.size W W') : Only g w W' :=
  ⟨hb.os.trans h.os, hb.tape.trans h.tape, hb.output.trans h.output, Nat.le_trans h.size hb.size, fun i hi hne => (hb.block i hi).trans (h.block i hi hne)⟩
theorem round_end {b : Bool} {w W W' : World} {g gb c z : Nat} {M N : Int} {s : List (Int × Int)} {y x : Int × Int} {A2 : Option Addr} {c2 : Nat} {kk : Int} {o : Obj} (hgl : g < w.heap.size) (h : St w g M gb c (s ++ [y]) z y W) (hb : Below w.heap.size (W.alloc o) W')
    (ho : W'.ownsRow w.heap.size 54 2 (.slice A2 (s.length + 1 + 1) c2) (s.length + 1 + 1) (flat (s ++ [y]) ++ [.int .i64 x.1, .int .i64 x.2])) (hg : Gen b (s ++ [y] ++ [x]))
    (hk : 0 < kk ∧ (s.length : Int) + 1 + kk ≤ 4) (hM : M ≤ N + 2 + 5 * ((s.length : Int) + 1)) :
    ∃ (A : Option Addr) (c : Nat) (l : List (Int × Int)) (k2 : Int), Value.slice A2 (s.length + 1 + 1) c2 = .slice A l.length c ∧ Value.int .i64 (kk - 1) = .int .i64 k2 ∧ 0 ≤ k2 ∧ (l.length : Int) + k2 ≤ 4 ∧ Gen b l ∧ OwnP W' w.heap.size A c l ∧ Only g w W' ∧ Deck W' g (N + 2 + 5 * ((l.length : Int) - 1)) :=
  ⟨A2, c2, s ++ [y] ++ [x], kk - 1, by simp, rfl, by omega, by simp; omega, hg, own_snoc ho, only_below (h.alloc (o := o)).2.1 hb, ((h.alloc (o := o)).1.below hb hgl).more (by simp; omega)⟩

set_option maxHeartbeats 3200000 in
theorem brackets_any (b : Bool) (g : Nat) (N : Int) (w : World) (hD : Deck w g N) (hN : N ≤ 800000) :
    Calls Try.prog 36 #[.pointer (some ⟨g, 0, none⟩), .bool b] w (GenPost b g (N + 20) w) := by
  have hgl := hD.lt
  obtain ⟨i0, hi, hz0, hz1, hz2⟩ := info_parts infoB
  go_enter Try.func36, Try.ntmps36
  go_wp2_with fail
  refine (pick_new g N [0, 100000, 150000] w 3 3 hD (by omega) (by decide) (by decide)).mono ?_
  rintro e w1 ⟨x, rfl, hx, ho, hD'⟩
  have HO1 := Lib.hid ho
  have HD1 := Lib.hid hD'
  clear ho hD' hD
  have hb : 0 ≤ x ∧ x ≤ 150000 := by simp at hx; omega
  clear hx
  have hs1 := HO1.out.size
  go_wp2_with fail
  refine (next_any g (N + 1) _ _ (HD1.out.alloc _) (by omega) (by omega) (by omega)).mono ?_
  rintro e w2 ⟨kk, rfl, hkk, ho, hD'⟩
  have hs2 := ho.size
  have HOW2 : Hid (OwnP w2 w.heap.size (some ⟨w1.heap.size, 0, none⟩) 1 [(0, x)]) := Lib.hid ((own_first w1 w.heap.size x hs1).only ho (by omega))
  have HO2 := Lib.hid ((HO1.out.alloc _).trans ho)
  have HD2 := Lib.hid hD'
  have HG : Hid (Gen b [(0, x)]) := Lib.hid (gen_first hb.1 hb.2)
  clear ho hD' HD1
  go_wp2
  go_loopw [5, 6] (fun v k wr => ∃ (A : Option Addr) (c : Nat) (l : List (Int × Int)) (kk : Int), v = .slice A l.length c ∧ k = .int .i64 kk ∧ 0 ≤ kk ∧ (l.length : Int) + kk ≤ 4 ∧ Gen b l ∧ OwnP wr w.heap.size A c l ∧ Only g w wr ∧ Deck wr g (N + 2 + 5 * ((l.length : Int) - 1))) (fun _ k _ => (intOf k).toNat)
  case atStart => exact ⟨some ⟨w1.heap.size, 0, none⟩, 1, [(0, x)], kk, rfl, rfl, by omega, by simp; omega, HG.out, HOW2.out, HO2.out, HD2.out.more (by simp; omega)⟩
  case round =>
    obtain ⟨A, c, l, kk, rfl, rfl, hk0, hk4, hgen, hown, hon, hdk⟩ := hrel
    have HGN := Lib.hid hgen
    have HOW := Lib.hid hown
    have HON := Lib.hid hon
    have HDK := Lib.hid hdk
    have hlen := hgen.1
    have hsw := hon.size
    clear hgen hown hon hdk
    by_cases hgo : 0 < kk
    · obtain ⟨s, y, hsy⟩ : ∃ s y, l = s ++ [y] := ⟨l.dropLast, l.getLast (by intro h; rw [h] at hlen; simp at hlen), (List.dropLast_concat_getLast _).symm⟩
      subst hsy
      obtain ⟨gb, rfl, hg1, hg2, q1, q2, q3⟩ := HOW.out.form
      simp only [List.length_append, List.length_cons, List.length_nil, Nat.zero_add] at hk4 hlen HDK ⊢
      have hyb := gen_last HGN.out
      go_upto_region 6 with (fail)
      obtain ⟨W0, hW0⟩ : ∃ W0, W0 = wr.alloc (.cells #[.int .i64 y.1, .int .i64 y.2] 54) := ⟨_, rfl⟩
      have HST : Hid (St w g (N + 2 + 5 * s.length) gb c (s ++ [y]) wr.heap.size y W0) := Lib.hid (by
        rw [hW0]
        exact ⟨(HDK.out.alloc _).more (by omega), HON.out.alloc _, HOW.out.alloc _, (Blk.new wr _ _).cell 0, (Blk.new wr _ _).cell 1, by simp⟩)
      rw [← hW0]
      have hgw : g < wr.heap.size := by omega
      clear hW0 HOW HON HDK q1 q2 q3
      generalize wr.heap.size = z at *
      have c0 := HST.out.2.2.2.1
      have hsz0 := HST.out.2.2.2.2.2
      have h0g : ¬ W0.heap.size = g := by omega
      have HN3 : Hid (∀ (W : World), St w g (N + 2 + 5 * s.length) gb c (s ++ [y]) z y W → Calls Try.prog 17 #[.pointer (some ⟨g, 0, none⟩), .int .i64 3000000] W (StInt (fun v => 0 ≤ v ∧ v < 3000000) w g (N + 2 + 5 * s.length + 1) gb c (s ++ [y]) z y W)) :=
        fun W hW => (next_any g (N + 2 + 5 * s.length) 3000000 W hW.1 (by omega) (by omega) (by omega)).mono (fun e w' h => h.st' hgl hgw hW)
      have HP4 : Hid (∀ (v : Int) (W : World) (gs : Nat), 0 ≤ v → v < 3000000 → St w g (N + 2 + 5 * s.length + 1) gb c (s ++ [y]) z y W → RdI W W.heap.size (some ⟨gs, 0, none⟩) [0, 99, v] → gs ≠ g →
          Calls Try.prog 15 #[.pointer (some ⟨g, 0, none⟩), .slice (some ⟨gs, 0, none⟩) 3 3] W (StInt (fun u => 0 ≤ u ∧ u < 3000000) w g (N + 2 + 5 * s.length + 1 + 1) gb c (s ++ [y]) z y W)) :=
        fun v W gs h1 h2 hW hr hne => (pick_any g (N + 2 + 5 * s.length + 1) _ 3 _ [0, 99, v] W hW.1 (by omega) hr (Nat.le_refl _) (fun b off e => by injection e with e; injection e with e; omega) (by simp) (by simp)).mono (fun e w' h => by
          refine DeckInt.st (P := fun u => 0 ≤ u ∧ u < 3000000) hgl hgw hW ?_
          obtain ⟨u, e1, e2, e3, e4⟩ := h
          exact ⟨u, e1, by simp at e2; omega, e3, e4⟩)
      have HR5 : Hid (∀ (W : World), St w g (N + 2 + 5 * s.length + 1 + 1) gb c (s ++ [y]) z y W → Calls Try.prog 51 #[.pointer (some ⟨g, 0, none⟩)] W (StInt (fun u => 0 ≤ u ∧ u ≤ 1000000) w g (N + 2 + 5 * s.length + 1 + 1 + 2) gb c (s ++ [y]) z y W)) :=
        fun W hW => (rate_any g (N + 2 + 5 * s.length + 1 + 1) W hW.1 (by omega)).mono (fun e w' h => h.st' hgl hgw hW)
      go_cut [8] (fun s8 wx => CutB w g (N + 2 + 5 * s.length + 4) gb c (s ++ [y]) z y s8 wx)
      case first =>
        go_region_held3 (fun W => W.cell? ⟨z, 0, none⟩ = some (.int .i64 y.1)) (first | go_keep | assumption | (refine keep_set (keep_set c5 ?_) ?_ <;> (intro e; injection e; omega)))
          (first | (go_at_call 17; refine (HN3.out _ ?_).mono ?_; (repeat (first | exact HST.out | apply St.alloc | apply St.drew)); rintro e w3 ⟨v3, rfl, hv3, hst3, ho3⟩; have c3 : w3.cell? ⟨z, 0, none⟩ = some (.int .i64 y.1) := hst3.2.2.2.1; have oc3 := only_cells ho3; have of3 := only_frozen ho3; have sz3 := ho3.size; have z3 : z < w3.heap.size := hst3.2.2.2.2.2; (try simp at sz3); have y30 : W0.heap.size ≤ w3.heap.size := (by first | exact sz3 | omega); (try (have y31 : W0.heap.size < w3.heap.size := (by omega))); have HST3 := Lib.hid hst3; have h3g : ¬ w3.heap.size = g := hst3.ne hgw; clear hst3 ho3)
                 | (go_at_call 15; refine (HP4.out v3 _ _ hv3.1 hv3.2 ?_ ?_ ?_).mono ?_; (repeat (first | exact HST3.out | apply St.alloc | apply St.drew)); (first | exact (rdI_at _ _ _ _ (by simp)).up | exact (rdI_at _ _ _ _ (by simp)).up2); omega; rintro e w4 ⟨v4, rfl, hv4, hst4, ho4⟩; have c4 : w4.cell? ⟨z, 0, none⟩ = some (.int .i64 y.1) := hst4.2.2.2.1; have oc4 := only_cells ho4; have of4 := only_frozen ho4; have sz4 := ho4.size; have z4 : z < w4.heap.size := hst4.2.2.2.2.2; (try simp at sz4); have y40 : w3.heap.size < w4.heap.size := (by omega); (try (have y41 : w3.heap.size + 1 < w4.heap.size := (by omega))); (try (have y42 : W0.heap.size < w4.heap.size := (by omega))); have g3 : ¬ w3.heap.size + 1 = g := (by have := HST3.out.2.2.2.2.2; omega); have HST4 := Lib.hid hst4; have h4g : ¬ w4.heap.size = g := hst4.ne hgw; clear hst4 ho4)
                 | (go_at_call 51; refine (HR5.out _ ?_).mono ?_; (repeat (first | exact HST4.out | apply St.alloc | apply St.drew)); rintro e w5 ⟨v5, rfl, hv5, hst5, ho5⟩; have c5 : w5.cell? ⟨z, 0, none⟩ = some (.int .i64 y.1) := hst5.2.2.2.1; have oc5 := only_cells ho5; have of5 := only_frozen ho5; have sz5 := ho5.size; have z5 : z < w5.heap.size := hst5.2.2.2.2.2; (try simp at sz5); have y50 : w4.heap.size ≤ w5.heap.size := (by first | exact sz5 | omega); (try (have y51 : w4.heap.size < w5.heap.size := (by omega))); (try (have y52 : w3.heap.size + 1 < w5.heap.size := (by omega))); have y53 : w3.heap.size < w5.heap.size := (by omega); (try (have y54 : W0.heap.size < w5.heap.size := (by omega))); have HST5 := Lib.hid hst5; clear hst5 ho5))
        all_goals
          go_wp2_with fail
          go_meet
          have hfe : IntKind.i64.wrap (IntKind.i64.wrap (y.1 + 1) + v4) = y.1 + 1 + v4 := by rw [IntWalk.i64_in (y.1 + 1) (by omega), IntWalk.i64_in _ (by omega)]
          rw [hfe]
          have hm : N + 2 + 5 * (s.length : Int) + 1 + 1 + 2 = N + 2 + 5 * s.length + 4 := by omega
          rw [hm] at HST5
        · exact cutB_new HST5.out (by omega) hg2 (by omega) (by omega) hv5.1 hv5.2
        · exact cutB_set HST5.out z4 (by omega) hg2 hsw hgl (by omega) (by omega) hv5.1 hv5.2 ((oc5 _ _ (by simp) (by omega)).trans ((Blk.new _ _ _).cell 0)) ((oc5 _ _ (by simp) (by omega)).trans ((Blk.new _ _ _).cell 1)) ((of5 _ _ (by simp) (by omega)).trans ((Blk.new _ _ _).frozen 1))
        · have k0 : w5.cell? ⟨w3.heap.size + 1, 0, none⟩ = some (.int .i64 0) := by rw [oc5 _ _ (by omega) (by omega), oc4 _ _ (by simp) (by omega)]; simp [go_sem]
          have k1 : w5.cell? ⟨w3.heap.size + 1, 1, none⟩ = some (.int .i64 0) := by rw [oc5 _ _ (by omega) (by omega), oc4 _ _ (by simp) (by omega)]; simp [go_sem]
          have kf : w5.frozen? ⟨w3.heap.size + 1, 1, none⟩ = false := by rw [of5 _ _ (by omega) (by omega), of4 _ _ (by simp) (by omega)]; simp [go_sem]
          exact cutB_set HST5.out (by omega) (by omega) hg2 hsw hgl (by omega) (by omega) hv5.1 hv5.2 k0 k1 kf
        · have k0 : w5.cell? ⟨w3.heap.size, 0, none⟩ = some (.int .i64 0) := by rw [oc5 _ _ (by omega) (by omega), oc4 _ _ (by simp; omega) (by omega)]; simp [go_sem]
          have k1 : w5.cell? ⟨w3.heap.size, 1, none⟩ = some (.int .i64 0) := by rw [oc5 _ _ (by omega) (by omega), oc4 _ _ (by simp; omega) (by omega)]; simp [go_sem]
          have kf : w5.frozen? ⟨w3.heap.size, 1, none⟩ = false := by rw [of5 _ _ (by omega) (by omega), of4 _ _ (by simp; omega) (by omega)]; simp [go_sem]
          exact cutB_set HST5.out (by omega) (by omega) hg2 hsw hgl (by omega) (by omega) hv5.1 hv5.2 k0 k1 kf
        · have k0 : w5.cell? ⟨W0.heap.size, 0, none⟩ = some (.int .i64 0) := by rw [oc5 _ _ (by omega) (by omega), oc4 _ _ (by simp; omega) (by omega)]; simp [go_sem, y31, oc3, h0g]
          have k1 : w5.cell? ⟨W0.heap.size, 1, none⟩ = some (.int .i64 0) := by rw [oc5 _ _ (by omega) (by omega), oc4 _ _ (by simp; omega) (by omega)]; simp [go_sem, y31, oc3, h0g]
          have kf : w5.frozen? ⟨W0.heap.size, 1, none⟩ = false := by rw [of5 _ _ (by omega) (by omega), of4 _ _ (by simp; omega) (by omega)]; simp [go_sem, y31, of3, h0g]
          exact cutB_set HST5.out (by omega) (by omega) hg2 hsw hgl (by omega) (by omega) hv5.1 hv5.2 k0 k1 kf
      case rest =>
        obtain ⟨bb, f, r, rfl, hst, k0, k1, kf, hbz, hbb4, hf1, hf2, hr1, hr2⟩ := hcut
        have HSC := Lib.hid hst
        clear hst HST HN3 HR5
        cases b
        · go_wp2_with (at_builtin; go_must (refine wpList_append_sl _ rfl _ _ 30 rfl w.heap.size 54 i0 _ 2 16 Try.underlying30 hi hz0 hz1 hz2 rfl (by decide) (some ⟨gb, 0, none⟩) c (s.length + 1) (flat (s ++ [y])) rfl (by exact own_len (HSC.out.alloc (o := _)).2.2.1) ⟨_, 0, none⟩ 1 1 [.int .i64 f, .int .i64 r] rfl rfl ?c1 ?c2 ?c3 ?c4 ?c5 ?_))
          case c1 => exact cells_at _ _ [.int .i64 f, .int .i64 r] _ (by simp)
          case c2 => exact flat_one [(f, r)]
          case c3 => unfold maxLen; omega
          case c4 => omega
          case c5 => have := HSC.out.2.1.size; simp; omega
          intro A2 c2 w6 hown6 hb6
          have HO6 := Lib.hid hown6
          have HB6 := Lib.hid hb6
          clear hown6 hb6
          go_wp2
          go_roundw
          case rel => exact round_end (x := (f, r)) hgl HSC.out HB6.out HO6.out (gen_step HGN.out (by omega) hf1 hf2 hr1 hr2 (fun h => by cases h)) (by omega) (by omega)
          case measure => simp [intOf]; omega
        · go_upto_region 8 with (fail)
          have c1 := HSC.out.2.2.2.2.1
          have hzc := HSC.out.2.2.2.2.2
          have hy4 := hyb.2.2.2.2 rfl
          have hbg : ¬ bb = g := by omega
          have HP8 : Hid (∀ (W : World) (gs : Nat), St w g (N + 2 + 5 * s.length + 4) gb c (s ++ [y]) z y W → RdI W W.heap.size (some ⟨gs, 0, none⟩) [0, 50000, 120000] → gs ≠ g →
              Calls Try.prog 15 #[.pointer (some ⟨g, 0, none⟩), .slice (some ⟨gs, 0, none⟩) 3 3] W (StInt (fun u => 0 ≤ u ∧ u ≤ 120000) w g (N + 2 + 5 * s.length + 4 + 1) gb c (s ++ [y]) z y W)) :=
            fun W gs hW hr hne => (pick_any g (N + 2 + 5 * s.length + 4) _ 3 _ [0, 50000, 120000] W hW.1 (by omega) hr (Nat.le_refl _) (fun b off e => by injection e with e; injection e with e; omega) (by simp) (by simp)).mono (fun e w' h => by
              refine DeckInt.st (P := fun u => 0 ≤ u ∧ u ≤ 120000) hgl hgw hW ?_
              obtain ⟨u, e1, e2, e3, e4⟩ := h
              exact ⟨u, e1, by simp at e2; omega, e3, e4⟩)
          go_cut [] (fun wx => CutC w g (N + 2 + 5 * s.length + 5) gb c (s ++ [y]) z y bb f wx)
          case first =>
            go_region_held3 (fun W => W.cell? ⟨z, 1, none⟩ = some (.int .i64 y.2)) (first | go_keep | assumption | (refine keep_set c6 ?_; (intro e; injection e; omega)))
              (first | (go_at_call 15; refine (HP8.out _ _ ?_ ?_ ?_).mono ?_; (repeat (first | exact HSC.out | apply St.alloc | apply St.drew)); (first | exact (rdI_at _ _ _ _ (by simp)).up | exact (rdI_at _ _ _ _ (by simp)).up2); omega; rintro e w6 ⟨v6, rfl, hv6, hst6, ho6⟩; have c6 : w6.cell? ⟨z, 1, none⟩ = some (.int .i64 y.2) := hst6.2.2.2.2.1; have oc6 := only_cells ho6; have of6 := only_frozen ho6; have sz6 := ho6.size; (try simp at sz6); have y6 : bb < w6.heap.size := (by omega); have HST6 := Lib.hid hst6; clear hst6 ho6))
            all_goals go_wp2_with fail
            all_goals go_meet
            all_goals
             have hw6 : IntKind.i64.wrap (y.2 + v6) = y.2 + v6 := IntWalk.i64_in _ (by omega)
             have q0 : w6.cell? ⟨bb, 0, none⟩ = some (.int .i64 f) := (oc6 _ _ (by simp; omega) hbg).trans ((World.cell?_alloc_lt _ _ ⟨bb, 0, none⟩ hbb4).trans k0)
             have q1 : w6.cell? ⟨bb, 1, none⟩ = some (.int .i64 r) := (oc6 _ _ (by simp; omega) hbg).trans ((World.cell?_alloc_lt _ _ ⟨bb, 1, none⟩ hbb4).trans k1)
             refine ⟨_, ((HST6.out.set (p := ⟨bb, 1, none⟩) hbz hg2 hsw hgl).more (by omega)), keep_set q0 (by intro e; injection e; omega), World.cell?_setCell_same _ _ _ q1, ?_, ?_, ?_, ?_⟩ <;> omega
          case rest =>
            obtain ⟨r, hst, k0, k1, hr1, hr2, hr3, hr4⟩ := hcut
            have HSD := Lib.hid hst
            clear hst HSC HP8 kf
            go_wp2_with (at_builtin; go_must (refine wpList_append_sl _ rfl _ _ 30 rfl w.heap.size 54 i0 _ 2 16 Try.underlying30 hi hz0 hz1 hz2 rfl (by decide) (some ⟨gb, 0, none⟩) c (s.length + 1) (flat (s ++ [y])) rfl (by exact own_len (HSD.out.alloc (o := _)).2.2.1) ⟨_, 0, none⟩ 1 1 [.int .i64 f, .int .i64 r] rfl rfl ?e1 ?e2 ?e3 ?e4 ?e5 ?_))
            case e2 => exact ⟨rfl, rfl⟩
            case e3 => unfold maxLen; omega
            case e4 => omega
            case e5 => have := HSD.out.2.1.size; simp; omega
            intro A2 c2 w6 hown6 hb6
            have HO6 := Lib.hid hown6
            have HB6 := Lib.hid hb6
            clear hown6 hb6
            go_wp2
            go_roundw
            case rel => exact round_end (x := (f, r)) hgl HSD.out HB6.out HO6.out (gen_step HGN.out (by omega) hf1 hf2 hr1 hr2 (fun _ => ⟨hr3, hr4⟩)) (by omega) (by omega)
            case measure => simp [intOf]; omega
    · have h4 := HGN.out.2.1
      go_wp2
      go_ret
      exact ⟨A, c, l, rfl, HGN.out, HOW.out, HON.out, HDK.out.more (by omega)⟩
end Go.Proofs.Ytcincmlpegnaiaa
