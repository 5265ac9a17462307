/-
  Chapter 30: the state of a law: a deck and a drawn tariff in its variable.
-/
import Derived.Test.YtcincmlpegnaiaaWh11
import Derived.Test.YtcincmlpegnaiaaWh12
import Derived.Test.YtcincmlpegnaiaaWh8b
namespace Go.Proofs.Ytcincmlpegnaiaa
open Go.RowKit
set_option linter.unusedVariables false
set_option linter.unusedSimpArgs false


structure LW (w : World) (g : Nat) (N : Int) (tb : Nat) (t : TF) (L : TL) (W : World) : Prop where
  below : Below w.heap.size w W
  deck : Deck W g N
  box : Blk W tb 33 #[.int .i64 t.m, .slice L.Ab t.bk.length L.nb, .int .i64 t.al, .int .i64 t.cr, .int .i64 t.un, .int .i64 t.mo, .slice L.Ar t.rw.length L.nr]
  rd : RdT W W.heap.size L t
  na : ∀ b off, L.Ab = some ⟨b, off, none⟩ → b ≠ g
  nr : ∀ b off, L.Ar = some ⟨b, off, none⟩ → b ≠ g
  ge : w.heap.size ≤ g
  tg : g < tb
section
variable {w W W' : World} {g tb : Nat} {N N' : Int} {t : TF} {L : TL}
theorem LW.draw (h : LW w g N tb t L W) (ho : Only g W W') (hD : Deck W' g N') : LW w g N' tb t L W' :=
  ⟨h.below.trans (ho.below h.below.size h.ge), hD, h.box.grown ho (by have := h.tg; intro e; injection e; omega), h.rd.only ho h.na h.nr, h.na, h.nr, h.ge, h.tg⟩
theorem LW.calc_ (h : LW w g N tb t L W) (hb : Below W.heap.size W W') : LW w g N tb t L W' :=
  ⟨h.below.trans (hb.mono h.below.size), h.deck.below hb h.deck.lt, h.box.below hb h.box.lt, h.rd.calc_ hb, h.na, h.nr, h.ge, h.tg⟩
theorem LW.alloc (h : LW w g N tb t L W) (o : Obj) : LW w g N tb t L (W.alloc o) := h.calc_ ((Below.refl _ _).alloc (Nat.le_refl _) o)
theorem LW.start {w1 w2 : World} (h1 : Below w.heap.size w w1) (hs : w1.heap.size = w.heap.size + 1) (ho : Only w.heap.size w1 w2) (hD : Deck w2 w.heap.size N) (hr : RdT w2 w2.heap.size L t) (na : ∀ b off, L.Ab = some ⟨b, off, none⟩ → b ≠ w.heap.size) (nr : ∀ b off, L.Ar = some ⟨b, off, none⟩ → b ≠ w.heap.size) :
    LW w w.heap.size N w2.heap.size t L (w2.alloc (.cells #[.int .i64 t.m, .slice L.Ab t.bk.length L.nb, .int .i64 t.al, .int .i64 t.cr, .int .i64 t.un, .int .i64 t.mo, .slice L.Ar t.rw.length L.nr] 33)) := by
  have hz := ho.size
  have ha : Below w2.heap.size w2 (w2.alloc (.cells #[.int .i64 t.m, .slice L.Ab t.bk.length L.nb, .int .i64 t.al, .int .i64 t.cr, .int .i64 t.un, .int .i64 t.mo, .slice L.Ar t.rw.length L.nr] 33)) := (Below.refl _ _).alloc (Nat.le_refl _) _
  have hb : Below w.heap.size w w2 := h1.trans (ho.below (by omega) (Nat.le_refl _))
  exact ⟨hb.trans (ha.mono hb.size), hD.alloc _, Blk.new _ _ _, hr.calc_ ha, na, nr, Nat.le_refl _, by omega⟩
end
theorem prd_calc {W W' : World} {A : Option Addr} {K : List Int} (h : RdI W W.heap.size A K) (hb : Below W.heap.size W W') : RdI W' W'.heap.size A K := Rd.more (h.below hb) hb.size
theorem pick_at (g : Nat) (N : Int) (l : List Int) (w : World) (t : TypeId) (c gs : Nat) (hgs : gs = w.heap.size) (hD : Deck w g N) (hN : N ≤ 1000000) (h0 : 0 < l.length) (hl : l.length ≤ 1000000) :
    Calls Try.prog 15 #[.pointer (some ⟨g, 0, none⟩), .slice (some ⟨gs, 0, none⟩) l.length c] (w.alloc (.cells (l.map (Value.int .i64)).toArray t)) (DeckInt (fun v => v ∈ l) g (N + 1) w) := by
  subst hgs
  exact pick_new g N l w t c hD hN h0 hl
theorem own_ne {W : World} {base g c : Nat} {A : Option Addr} {l : List Int} (h : OwnI W base A c l) (hg : g < base) : ∀ b off, A = some ⟨b, off, none⟩ → b ≠ g := fun b off e => by
  unfold OwnI at h
  rw [e] at h
  have := (World.ownsRow.lt h b rfl).1
  omega

end Go.Proofs.Ytcincmlpegnaiaa
