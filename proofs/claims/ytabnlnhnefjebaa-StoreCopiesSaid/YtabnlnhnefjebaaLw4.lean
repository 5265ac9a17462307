/-
  Chapter 41: a store beside its reference: what each call leaves of the other. The memory is that of the given program; no conditions.
-/
import Derived.Test.YtabnlnhnefjebaaLw1
import Derived.Test.YtabnlnhnefjebaaRf4
import Derived.Test.YtabnlnhnefjebaaDeckL
namespace Go.Proofs.Ytabnlnhnefjebaa
open Go.RowKit
set_option linter.unusedVariables false
set_option linter.unusedSimpArgs false
section
variable {w w' : World} {p q : Nat} {own own' : Option Nat} {B : List (List Int)} {rs : List (List Int)} {sy sy' : Nat}
theorem St.typ (h : St w p own B sy) : (∃ cs, Blk w p 59 cs) ∧ ∀ g, own = some g → ∃ cs, Blk w g 61 cs := by
  obtain ⟨A, c, h⟩ := h
  refine ⟨⟨_, h.box⟩, fun g e => ?_⟩
  rw [h.own_] at e
  rcases h.row.2 with ⟨h3, _⟩ | ⟨g', cap, cur, h3, _, hh, _⟩
  · rw [h3] at e; simp [Value.ownBlock] at e
  · rw [h3] at e
    simp [Value.ownBlock] at e
    subst e
    exact ⟨cur, hh⟩
theorem Rf.typ (h : Rf w q own rs sy) : (∃ cs, Blk w q 48 cs) ∧ ∀ g, own = some g → ∃ cs, Blk w g 23 cs := by
  obtain ⟨A, c, vs, h⟩ := h
  exact ⟨⟨_, h.box⟩, h.own_typ⟩
/-- what turns in a store leaves the reference -/
theorem Rf.besideSt (h : Rf w q own' rs sy) (hs : St w p own B sy') (k : Chg (fun k => k = p ∨ own = some k) w w') : Rf w' q own' rs sy := by
  obtain ⟨⟨cs, h1⟩, h2⟩ := hs.typ
  obtain ⟨⟨cs3, h3⟩, h4⟩ := h.typ
  refine h.keep k ?_ ?_ ?_
  · rintro (e | e)
    · exact h3.ne_ h1 (by decide) e
    · obtain ⟨c2, hc2⟩ := h2 _ e; exact h3.ne_ hc2 (by decide) rfl
  · intro g e
    obtain ⟨c4, hc4⟩ := h4 g e
    rintro (e' | e')
    · exact hc4.ne_ h1 (by decide) e'
    · obtain ⟨c2, hc2⟩ := h2 _ e'; exact hc4.ne_ hc2 (by decide) rfl
  · intro g c5 hc5
    rintro (e' | e')
    · exact hc5.ne_ h1 (by decide) e'
    · obtain ⟨c2, hc2⟩ := h2 _ e'; exact hc5.ne_ hc2 (by decide) rfl
theorem St.besideRf (hs : St w p own B sy') (h : Rf w q own' rs sy) (k : Chg (fun k => k = q ∨ own' = some k) w w') : St w' p own B sy' := by
  obtain ⟨⟨cs, h1⟩, h2⟩ := hs.typ
  obtain ⟨⟨cs3, h3⟩, h4⟩ := h.typ
  refine hs.keep k ?_ ?_
  · rintro (e | e)
    · exact h1.ne_ h3 (by decide) e
    · obtain ⟨c4, hc4⟩ := h4 _ e; exact h1.ne_ hc4 (by decide) rfl
  · intro g e
    obtain ⟨c2, hc2⟩ := h2 g e
    rintro (e' | e')
    · exact hc2.ne_ h3 (by decide) e'
    · obtain ⟨c4, hc4⟩ := h4 _ e'; exact hc2.ne_ hc4 (by decide) rfl
theorem Only.chg {g : Nat} (h : Only g w w') {S : Nat → Prop} (hs : S g) : Chg S w w' := Chg.of_grown h (fun i _ e => by injection e with e; subst e; exact hs)
theorem St.lt (h : St w p own B sy) : p < w.heap.size ∧ ∀ g, own = some g → g < w.heap.size := by
  obtain ⟨⟨cs, h1⟩, h2⟩ := h.typ
  refine ⟨h1.lt, fun g e => ?_⟩
  obtain ⟨c2, hc2⟩ := h2 g e
  exact hc2.lt
theorem Rf.lt (h : Rf w q own rs sy) : q < w.heap.size ∧ ∀ g, own = some g → g < w.heap.size := by
  obtain ⟨⟨cs, h1⟩, h2⟩ := h.typ
  refine ⟨h1.lt, fun g e => ?_⟩
  obtain ⟨c2, hc2⟩ := h2 g e
  exact hc2.lt
end
/-- the records behind an Append -/
def appR (rs : List (List Int)) (b : List Int) : List (List Int) := if appE (brecs 0 rs) b.length = 0 then rs ++ [b] else rs
theorem appB_R (rs : List (List Int)) (b : List Int) : appB (brecs 0 rs) b = brecs 0 (appR rs b) := by
  unfold appB appR
  split
  · rw [brecs_snoc, brecs_len, Nat.zero_add]
  · rfl
def RAppAny (q : Nat) (own : Option Nat) (rs : List (List Int)) (sy : Nat) (b : List Int) (w : World) (e : Ending) (w' : World) : Prop :=
  e = .returned (.int .i64 (appE (brecs 0 rs) b.length)) ∧ ∃ own', Rf w' q own' (appR rs b) sy ∧ (own' = own ∨ ∃ g, own' = some g ∧ w.heap.size ≤ g) ∧ Chg (fun k => k = q ∨ own = some k) w w'
theorem rappend_any (q : Nat) (own : Option Nat) (rs : List (List Int)) (sy : Nat) (A0 : Option Addr) (c0 m : Nat) (b : List Int) (w : World) (hm : Hid (m = b.length)) (h : Rf w q own rs sy) (hr : RdB w w.heap.size A0 b) (hb : byteOk b) :
    Calls Try.prog 33 #[.pointer (some ⟨q, 0, none⟩), .slice A0 m c0] w (RAppAny q own rs sy b w) := by
  have e := hm.out
  subst e
  have hN : (brecs 0 rs).length = needs rs := brecs_len rs 0
  by_cases h1 : b.length < 1 ∨ 4096 < b.length
  · have e1 : appE (brecs 0 rs) b.length = 1 := by unfold appE; rw [if_pos h1]
    refine (rappend_bad q A0 b.length c0 w h1).mono ?_
    rintro e w' ⟨rfl, rfl⟩
    exact ⟨by rw [e1], own, by unfold appR; rw [e1]; exact h, .inl rfl, Chg.refl _ _⟩
  · by_cases h2 : 16384 < needs rs + (b.length + 25) / 26
    · have e1 : appE (brecs 0 rs) b.length = 18 := by unfold appE; rw [if_neg h1, hN, if_pos h2]
      refine (rappend_full q own rs sy A0 b.length c0 w h (by omega) (by omega) h2).mono ?_
      rintro e w' ⟨rfl, rfl⟩
      exact ⟨by rw [e1], own, by unfold appR; rw [e1]; exact h, .inl rfl, Chg.refl _ _⟩
    · have e1 : appE (brecs 0 rs) b.length = 0 := by unfold appE; rw [if_neg h1, hN, if_neg h2]
      refine (rappend_ok q own rs sy A0 b.length c0 b w h hr.src rfl hb (by omega) (by omega) (by unfold need; omega)).mono ?_
      rintro e w' ⟨rfl, own', h3, h4, h5⟩
      exact ⟨by rw [e1], own', by unfold appR; rw [e1]; exact h3, h4, h5⟩
/-- the law's state: the deck, a store and its reference, both above 'lo' -/
structure PS (w : World) (g : Nat) (N : Int) (p : Nat) (own : Option Nat) (q : Nat) (own' : Option Nat) (rs : List (List Int)) (sy lo : Nat) : Prop where
  deck : Deck w g N
  st : St w p own (brecs 0 rs) sy
  rf : Rf w q own' rs sy
  lt : g < lo
  pge : lo ≤ p
  qge : lo ≤ q
  oge : ∀ k, own = some k → lo ≤ k
  oge' : ∀ k, own' = some k → lo ≤ k
section
variable {w w' w1 w2 : World} {g : Nat} {N N' : Int} {p q : Nat} {own own' : Option Nat} {rs : List (List Int)} {sy lo : Nat}
theorem PS.below (h : PS w g N p own q own' rs sy lo) (k : Below w.heap.size w w') : PS w' g N p own q own' rs sy lo :=
  ⟨h.deck.below k h.deck.lt, h.st.below k, h.rf.below k, h.lt, h.pge, h.qge, h.oge, h.oge'⟩
theorem PS.more (h : PS w g N p own q own' rs sy lo) (hN : N ≤ N') : PS w g N' p own q own' rs sy lo :=
  ⟨h.deck.more hN, h.st, h.rf, h.lt, h.pge, h.qge, h.oge, h.oge'⟩
/-- what the deck does leaves both -/
theorem PS.drawn (h : PS w g N p own q own' rs sy lo) (k : Only g w w') (hD : Deck w' g N') : PS w' g N' p own q own' rs sy lo := by
  obtain ⟨A, c, l, kk, hb, _⟩ := h.deck
  have hc : Chg (fun k => k = g) w w' := k.chg rfl
  obtain ⟨⟨cs, h1⟩, h2⟩ := h.st.typ
  obtain ⟨⟨cs3, h3⟩, h4⟩ := h.rf.typ
  refine ⟨hD, h.st.keep hc (fun e => ?_) (fun g' e e' => ?_), h.rf.keep hc (fun e => ?_) (fun g' e e' => ?_) (fun g' cs hcs e' => hcs.ne_ hb (by decide) e'), h.lt, h.pge, h.qge, h.oge, h.oge'⟩
  · have := h.pge; have := h.lt; omega
  · have := h.oge g' e; have := h.lt; omega
  · have := h.qge; have := h.lt; omega
  · have := h.oge' g' e; have := h.lt; omega
theorem Deck.chg {S : Nat → Prop} (h : Deck w g N) (k : Chg S w w') (hs : ∀ i, i ≤ g → ¬ S i) : Deck w' g N := by
  have := h.lt
  exact h.below (k.below (B := g + 1) (by omega) (fun i hi => hs i (by omega))) (by omega)
/-- Sync of both -/
theorem PS.sync (h : PS w g N p own q own' rs sy lo) (h1 : St w1 p own (brecs 0 rs) (brecs 0 rs).length) (k1 : Only p w w1) (h2 : Rf w2 q own' rs (needs rs)) (k2 : Only q w1 w2) : PS w2 g N p own q own' rs (needs rs) lo := by
  have hr1 : Rf w1 q own' rs sy := h.rf.besideSt h.st (k1.chg (.inl rfl))
  have h1' := h1.besideRf hr1 (k2.chg (.inl rfl))
  rw [brecs_len] at h1'
  have hl := h.lt
  have hp := h.pge
  have hq := h.qge
  exact ⟨(h.deck.chg (k1.chg (S := fun k => k = p) rfl) (fun i hi e => by omega)).chg (k2.chg (S := fun k => k = q) rfl) (fun i hi e => by omega), h1', h2, h.lt, h.pge, h.qge, h.oge, h.oge'⟩
/-- bytes beside a store and a reference -/
theorem Blk.besideSt {gb : Nat} {cs : Array Value} {B : List (List Int)} (h : Blk w gb 5 cs) (hs : St w p own B sy) (k : Chg (fun k => k = p ∨ own = some k) w w') : Blk w' gb 5 cs := by
  obtain ⟨⟨c1, h1⟩, h2⟩ := hs.typ
  refine h.chg k ?_
  rintro (e | e)
  · exact h.ne_ h1 (by decide) e
  · obtain ⟨c2, hc2⟩ := h2 _ e; exact h.ne_ hc2 (by decide) rfl
theorem Blk.besideRf {gb : Nat} {cs : Array Value} (h : Blk w gb 5 cs) (hs : Rf w q own rs sy) (k : Chg (fun k => k = q ∨ own = some k) w w') : Blk w' gb 5 cs := by
  obtain ⟨⟨c1, h1⟩, h2⟩ := hs.typ
  refine h.chg k ?_
  rintro (e | e)
  · exact h.ne_ h1 (by decide) e
  · obtain ⟨c2, hc2⟩ := h2 _ e; exact h.ne_ hc2 (by decide) rfl
/-- Append of both -/
theorem PS.app {b : List Int} {own1 own2 : Option Nat} (h : PS w g N p own q own' rs sy lo) (h1 : St w1 p own1 (appB (brecs 0 rs) b) sy) (o1 : own1 = own ∨ ∃ k, own1 = some k ∧ w.heap.size ≤ k) (k1 : Chg (fun k => k = p ∨ own = some k) w w1)
    (h2 : Rf w2 q own2 (appR rs b) sy) (o2 : own2 = own' ∨ ∃ k, own2 = some k ∧ w1.heap.size ≤ k) (k2 : Chg (fun k => k = q ∨ own' = some k) w1 w2) : PS w2 g N p own1 q own2 (appR rs b) sy lo := by
  have hr1 : Rf w1 q own' rs sy := h.rf.besideSt h.st k1
  have h1' := h1.besideRf hr1 k2
  rw [appB_R] at h1'
  have hl := h.lt
  have hp := h.pge
  have hq := h.qge
  have hps := h.st.lt.1
  have hsz := k1.size
  refine ⟨(h.deck.chg k1 (fun i hi e => ?_)).chg k2 (fun i hi e => ?_), h1', h2, h.lt, h.pge, h.qge, fun k e => ?_, fun k e => ?_⟩
  · rcases e with e | e
    · omega
    · have := h.oge i e; omega
  · rcases e with e | e
    · omega
    · have := h.oge' i e; omega
  · rcases o1 with o1 | ⟨k', o1, ho⟩
    · exact h.oge k (by rw [← o1]; exact e)
    · rw [o1] at e; injection e with e; omega
  · rcases o2 with o2 | ⟨k', o2, ho⟩
    · exact h.oge' k (by rw [← o2]; exact e)
    · rw [o2] at e; injection e with e; omega
end
end Go.Proofs.Ytabnlnhnefjebaa
