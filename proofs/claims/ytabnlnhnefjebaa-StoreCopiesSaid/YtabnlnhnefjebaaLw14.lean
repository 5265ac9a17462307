/-
  Chapter 41: the walk of StoreCopies. The memory is that of the given program; no conditions.
-/
import Derived.Test.YtabnlnhnefjebaaLw9
import Derived.Test.YtabnlnhnefjebaaLw12
import Derived.Test.YtabnlnhnefjebaaLw11
import Derived.Test.YtabnlnhnefjebaaRf13
import Derived.Test.YtabnlnhnefjebaaSt9
namespace Go.Proofs.Ytabnlnhnefjebaa
open Go.RowKit
set_option linter.unusedVariables false
set_option linter.unusedSimpArgs false
/-- the copies: their blocks are not below lo -/
structure TQ (w : World) (lo pt : Nat) (ownt : Option Nat) (qt : Nat) (ownq : Option Nat) (rs : List (List Int)) (sy : Nat) : Prop where
  st : St w pt ownt (brecs 0 rs) sy
  rf : Rf w qt ownq rs sy
  pge : lo ≤ pt
  qge : lo ≤ qt
  oge : ∀ k, ownt = some k → lo ≤ k
  oge' : ∀ k, ownq = some k → lo ≤ k
section
variable {w w' : World} {lo pt qt : Nat} {ownt ownq : Option Nat} {rs : List (List Int)} {sy : Nat}
theorem TQ.below (h : TQ w lo pt ownt qt ownq rs sy) (k : Below w.heap.size w w') : TQ w' lo pt ownt qt ownq rs sy := ⟨h.st.below k, h.rf.below k, h.pge, h.qge, h.oge, h.oge'⟩
/-- what turns below lo, bytes left out, leaves the copies -/
theorem TQ.keep {S : Nat → Prop} (h : TQ w lo pt ownt qt ownq rs sy) (k : Chg S w w') (hS : ∀ i, S i → i < lo) (hi : ∀ g cs, Blk w g 5 cs → ¬ S g) : TQ w' lo pt ownt qt ownq rs sy := by
  have h1 := h.pge
  have h2 := h.qge
  exact ⟨h.st.keep k (fun e => by have := hS _ e; omega) (fun g e e' => by have := hS _ e'; have := h.oge g e; omega), h.rf.keep k (fun e => by have := hS _ e; omega) (fun g e e' => by have := hS _ e'; have := h.oge' g e; omega) hi, h.pge, h.qge, h.oge, h.oge'⟩
theorem Rf.drawn {g q : Nat} {own : Option Nat} {N : Int} (h : Rf w q own rs sy) (hD : Deck w g N) (k : Only g w w') : Rf w' q own rs sy := by
  obtain ⟨⟨cs, h1⟩, h2⟩ := h.typ
  obtain ⟨A, c, l, kk, hb, _⟩ := hD
  refine h.keep (k.chg (S := fun k => k = g) rfl) (fun e => h1.ne_ hb (by decide) e) (fun g' e e' => ?_) (fun g' cs hcs e' => hcs.ne_ hb (by decide) e')
  obtain ⟨c2, hc2⟩ := h2 g' e
  exact hc2.ne_ hb (by decide) e'
theorem TQ.drawn {g : Nat} {N : Int} (h : TQ w lo pt ownt qt ownq rs sy) (hD : Deck w g N) (k : Only g w w') : TQ w' lo pt ownt qt ownq rs sy := ⟨h.st.drawn hD k, h.rf.drawn hD k, h.pge, h.qge, h.oge, h.oge'⟩
/-- what turns in another store leaves the copies -/
theorem TQ.besideS {p : Nat} {own : Option Nat} {B : List (List Int)} {sy' : Nat} (h : TQ w lo pt ownt qt ownq rs sy) (hs : St w p own B sy') (hp : p < lo) (ho : ∀ k, own = some k → k < lo) (k : Chg (fun k => k = p ∨ own = some k) w w') : TQ w' lo pt ownt qt ownq rs sy := by
  obtain ⟨⟨c1, h1⟩, h2⟩ := hs.typ
  refine h.keep k (fun i e => ?_) (fun g cs hb e => ?_)
  · rcases e with e | e
    · omega
    · exact ho i e
  · rcases e with e | e
    · exact hb.ne_ h1 (by decide) e
    · obtain ⟨c2, hc2⟩ := h2 _ e; exact hb.ne_ hc2 (by decide) rfl
theorem TQ.besideR {q : Nat} {own : Option Nat} {rs' : List (List Int)} {sy' : Nat} (h : TQ w lo pt ownt qt ownq rs sy) (hs : Rf w q own rs' sy') (hp : q < lo) (ho : ∀ k, own = some k → k < lo) (k : Chg (fun k => k = q ∨ own = some k) w w') : TQ w' lo pt ownt qt ownq rs sy := by
  obtain ⟨⟨c1, h1⟩, h2⟩ := hs.typ
  refine h.keep k (fun i e => ?_) (fun g cs hb e => ?_)
  · rcases e with e | e
    · omega
    · exact ho i e
  · rcases e with e | e
    · exact hb.ne_ h1 (by decide) e
    · obtain ⟨c2, hc2⟩ := h2 _ e; exact hb.ne_ hc2 (by decide) rfl
end
/-- bytes that are ours to change -/
def ByteRow (w : World) (lo : Nat) (A : Option Addr) (m : Nat) : Prop := ∀ j, j < m → ∃ g v cs, A = some ⟨g, 0, none⟩ ∧ lo ≤ g ∧ w.cell? ⟨g, j, none⟩ = some (.int .u8 v) ∧ Blk w g 5 cs
/-- the records that were returned, whatever their bytes are -/
structure XR (w : World) (A : Option Addr) (c n : Nat) (vs : List Value) (wr : World) : Prop where
  row : wr.ownsRow w.heap.size 23 1 (.slice A n c) n vs
  rows : ∀ (i : Nat) (Ai : Option Addr) (mi ci : Nat), vs[i]? = some (Value.slice Ai mi ci) → ByteRow wr w.heap.size Ai mi
  bel : Below w.heap.size w wr
theorem ByteRow.store {w : World} {lo : Nat} {A : Option Addr} {m : Nat} (h : ByteRow w lo A m) {g k : Nat} {v : Int} {u : Value} (hc : w.cell? ⟨g, k, none⟩ = some u) : ByteRow (w.setCell ⟨g, k, none⟩ (.int .u8 v)) lo A m := by
  intro j hj
  obtain ⟨g', v', cs, e, hlo, hcell, hb⟩ := h j hj
  by_cases hg : g' = g
  · subst hg
    by_cases hk : j = k
    · subst hk
      exact ⟨g', v, _, e, hlo, by
        have := (hb.set_ j (.int .u8 v)).cell j
        rw [this]
        rw [hb.cell] at hc
        have hlt := (Array.getElem?_eq_some_iff.1 hc).1
        simp [hlt], hb.set_ j _⟩
    · exact ⟨g', v', _, e, hlo, by
        have := (hb.set_ k (.int .u8 v)).cell j
        rw [this, Array.getElem?_setIfInBounds_ne (fun e => hk e.symm), ← hb.cell]
        exact hcell, hb.set_ k _⟩
  · exact ⟨g', v', cs, e, hlo, by
      rw [← hcell]
      exact World.cell?_setCell_other w _ _ _ (fun e => hg (by first | exact (congrArg Addr.block e).symm | exact congrArg Addr.block e)), hb.far hg _⟩
theorem XR.store {w wr : World} {A : Option Addr} {c n : Nat} {vs : List Value} (h : XR w A c n vs wr) {g k : Nat} {v : Int} {u : Value} {cs : Array Value} (hlo : w.heap.size ≤ g) (hb : Blk wr g 5 cs) (hc : wr.cell? ⟨g, k, none⟩ = some u) : XR w A c n vs (wr.setCell ⟨g, k, none⟩ (.int .u8 v)) := by
  refine ⟨own_chg h.row (S := fun i => i = g) ((Chg.refl (fun i => i = g) wr).setCell (p := ⟨g, k, none⟩) (fun _ => rfl) _) (fun g' e e' => own_blk_ne h.row hb ne235 (by rw [e, e'])), fun i Ai mi ci e => (h.rows i Ai mi ci e).store hc, h.bel.setCell (p := ⟨g, k, none⟩) hlo _⟩
theorem xr_of {w w' : World} {A : Option Addr} {c n : Nat} {rs : List (List Int)} {vs : List Value} (h1 : w'.ownsRow w.heap.size 23 1 (.slice A n c) n vs) (h2 : RecV w' w.heap.size rs vs) (hb : Below w.heap.size w w') : XR w A c n vs w' := by
  refine ⟨h1, fun i Ai mi ci e j hj => ?_, hb⟩
  have hi : i < rs.length := by rw [← h2.1]; exact (List.getElem?_eq_some_iff.1 e).1
  obtain ⟨A', c', e1, e2⟩ := h2.2 i hi
  rw [e] at e1
  injection e1 with e1
  injection e1 with a1 a2 a3
  subst a1 a2 a3
  rcases e2.2 with ⟨h3, h4⟩ | ⟨g, cap, cur, h3, hlo, hh, hn, hm, hs, ht⟩
  · omega
  · injection h3 with b1 b2 b3
    subst b1 b3
    refine ⟨g, rs[i][j], cur, rfl, hlo, ?_, hh⟩
    have := e2.cells (g := g) rfl j _ (u8s_get rs[i] j hj)
    rw [Go.WideShapes.add_plain, Nat.zero_add] at this
    rw [this]
    simp [at1, hj]
theorem records_new {w : World} {p n : Nat} {own : Option Nat} {rs : List (List Int)} {sy sy' : Nat} (hn : Hid (n = rs.length)) (h : St w p own (brecs 0 rs) sy) (hok : Hid (RsOk rs sy')) : Calls Try.prog 27 #[.pointer (some ⟨p, 0, none⟩)] w (fun e w' => ∃ A c vs, e = .returned (.slice A n c) ∧ XR w A c n vs w' ∧ RecV w' w.heap.size rs vs) := by
  have h1 := records_any p own _ sy w h (fun x hx => brecs_size rs 0 x hx)
  rw [recsOf_brecs rs (fun r hr => (hok.out.ok r hr).2.1) 0] at h1
  refine h1.mono ?_
  rintro e w' ⟨A, c, rfl, ⟨vs, h2, h3⟩, h4⟩
  rw [hn.out]
  exact ⟨A, c, vs, rfl, xr_of h2 h3 h4, h3⟩
/-- the header of a record -/
theorem xr_head {w wr w' : World} {A : Option Addr} {c n : Nat} {rs : List (List Int)} {vs : List Value} (h : Hid (XR w A c n vs wr)) (hv : Hid (RecV w' w.heap.size rs vs)) (hn : Hid (n = rs.length)) (hok : Hid (∀ r ∈ rs, r.length ≤ 4096)) {i : Nat} (hi : i < n) :
    ∃ ga Ai mi ci, A = some ⟨ga, 0, none⟩ ∧ vs[i]? = some (Value.slice Ai mi ci) ∧ mi ≤ 4096 := by
  obtain ⟨ga, cap, hA, _, _⟩ := h.out.row.form (by omega)
  injection hA with a1 a2 a3
  have hi' : i < rs.length := by rw [← hn.out]; exact hi
  obtain ⟨Ai, ci, e1, _⟩ := hv.out.2 i hi'
  exact ⟨ga, Ai, _, ci, a1, e1, hok.out _ (List.getElem_mem hi')⟩
theorem xr_cell {w wr : World} {ga c n : Nat} {vs : List Value} (h : Hid (XR w (some ⟨ga, 0, none⟩) c n vs wr)) {i : Nat} {v : Value} (e : Hid (vs[i]? = some v)) : wr.cell? ⟨ga, i, none⟩ = some v := by
  have := h.out.row.cells (g := ga) rfl i _ e.out
  rwa [Go.WideShapes.add_plain, Nat.zero_add] at this
end Go.Proofs.Ytabnlnhnefjebaa
