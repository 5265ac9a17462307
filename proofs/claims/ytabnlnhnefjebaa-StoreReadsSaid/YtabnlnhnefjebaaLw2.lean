/-
  Chapter 41: the walk of StoreLimits. The memory is that of the given program; no conditions.
-/
import Derived.Test.YtabnlnhnefjebaaLw1
import Derived.Test.YtabnlnhnefjebaaRf1
namespace Go.Proofs.Ytabnlnhnefjebaa
open Go.RowKit
set_option linter.unusedVariables false
set_option linter.unusedSimpArgs false
/-- a store that the call itself has made -/
structure FSt (w wr : World) (p : Nat) (own : Option Nat) (B : List (List Int)) (sy : Nat) : Prop where
  st : St wr p own B sy
  bel : Below w.heap.size w wr
  pge : w.heap.size ≤ p
  fresh : ∀ g, own = some g → w.heap.size ≤ g
section
variable {w wr w' : World} {p : Nat} {own : Option Nat} {B : List (List Int)} {sy : Nat}
theorem FSt.below (h : FSt w wr p own B sy) (hb : Below wr.heap.size wr w') : FSt w w' p own B sy := ⟨h.st.below hb, h.bel.trans (hb.mono h.bel.size), h.pge, h.fresh⟩
theorem FSt.new (w wr : World) (hb : Below w.heap.size w wr) : FSt w (wr.alloc (.cells #[.slice none 0 0, .int .i64 0] 59)) wr.heap.size none [] 0 := ⟨st_new wr _ rfl, hb.alloc hb.size _, hb.size, fun g e => by cases e⟩
theorem FSt.chg (h : FSt w wr p own B sy) (k : Chg (fun k => k = p ∨ own = some k) wr w') : Below w.heap.size w w' := h.bel.trans (k.below h.bel.size (fun i hi e => by
  rcases e with e | e
  · have := h.pge; omega
  · have := h.fresh i e; omega))
theorem FSt.app (h : FSt w wr p own B sy) {B' : List (List Int)} {sy' : Nat} {own' : Option Nat} (hs : St w' p own' B' sy') (ho : own' = own ∨ ∃ g, own' = some g ∧ wr.heap.size ≤ g) (k : Chg (fun k => k = p ∨ own = some k) wr w') : FSt w w' p own' B' sy' :=
  ⟨hs, h.chg k, h.pge, fun g e => by
    rcases ho with ho | ⟨g', ho, hg⟩
    · exact h.fresh g (by rw [← ho]; exact e)
    · have := h.bel.size
      rw [ho] at e; injection e with e; omega⟩
/-- a row of another type reads the same behind a store's turn -/
theorem blk_chg (h : St wr p own B sy) (k : Chg (fun k => k = p ∨ own = some k) wr w') {g : Nat} {t : TypeId} {cs : Array Value} (hb : Blk wr g t cs) (h1 : t ≠ 59) (h2 : 61 ≠ t) : Blk w' g t cs := by
  obtain ⟨A, c, h⟩ := h
  exact hb.chg k (fun e => by
    rcases e with e | e
    · exact hb.ne_ h.box h1 e
    · rw [h.own_] at e; exact own_blk_ne h.row hb h2 e)
end
theorem appE_ok (B : List (List Int)) (m : Nat) (h1 : 1 ≤ m) (h2 : m ≤ 4096) (h3 : B.length + (m + 25) / 26 ≤ 16384) : appE B m = 0 := by unfold appE; rw [if_neg (by omega), if_neg (by omega)]
theorem appE_bad (B : List (List Int)) (m : Nat) (h : m < 1 ∨ 4096 < m) : appE B m = 1 := by unfold appE; rw [if_pos h]
theorem appE_full (B : List (List Int)) (m : Nat) (h1 : 1 ≤ m) (h2 : m ≤ 4096) (h3 : 16384 < B.length + (m + 25) / 26) : appE B m = 18 := by unfold appE; rw [if_neg (by omega), if_pos h3]
theorem appB_ok (B : List (List Int)) (b : List Int) (h : appE B b.length = 0) : appB B b = B ++ brec B.length b := by unfold appB; rw [if_pos h]
theorem append_e {p : Nat} {own : Option Nat} {B : List (List Int)} {sy : Nat} {A0 : Option Addr} {c0 m : Nat} {b : List Int} {w : World} {ev : Int} {B' : List (List Int)} (hm : Hid (m = b.length)) (he : Hid (appE B b.length = ev)) (hB : Hid (appB B b = B')) (h : St w p own B sy) (hr : RdB w w.heap.size A0 b) (hc : m ≤ c0) (hc2 : c0 ≤ 9223372036854775807) (hb : byteOk b)
    (hap : ∀ ad, A0 = some ad → ad.block ≠ p ∧ own ≠ some ad.block) : Calls Try.prog 19 #[.pointer (some ⟨p, 0, none⟩), .slice A0 m c0] w (fun e w' => e = .returned (.int .i64 ev) ∧ ∃ own', St w' p own' B' sy ∧ (own' = own ∨ ∃ g, own' = some g ∧ w.heap.size ≤ g) ∧ Chg (fun k => k = p ∨ own = some k) w w') := by
  have := append_any p own B sy A0 c0 m b w hm h hr hc hc2 hb hap
  unfold AppAny at this
  rw [he.out, hB.out] at this
  exact this
theorem blocks_le {p : Nat} {own : Option Nat} {B : List (List Int)} {sy n : Nat} {w : World} (h : St w p own B sy) (hn : Hid (B.length = n)) : Calls Try.prog 15 #[.pointer (some ⟨p, 0, none⟩)] w (RetI n w) := by
  rw [← hn.out]; exact blocks_any p own B sy w h
end Go.Proofs.Ytabnlnhnefjebaa
