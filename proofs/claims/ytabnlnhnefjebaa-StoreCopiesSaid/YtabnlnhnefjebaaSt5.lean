/-
  Chapter 41: Open of the program. The memory is that of the given program; no conditions.
-/
import Derived.Test.YtabnlnhnefjebaaSt4
namespace Go.Proofs.Ytabnlnhnefjebaa
open Go.RowKit
set_option linter.unusedVariables false
set_option linter.unusedSimpArgs false
/-- the state of Open's loop -/
structure OpnL (w : World) (p : Nat) (b : List Int) (rs : List (List Int)) (now r : List Int) (A2 : Option Addr) (c2 : Nat) (B1 : List (List Int)) (own1 : Option Nat) (A1 : Option Addr) (c1 : Nat) (wr : World) : Prop where
  st : StV wr p own1 B1 0 A1 c1
  blks : B1 = brecs 0 rs ++ part (needs rs) now
  tot : rs ++ opnA (16384 - B1.length) B1.length now r = opn b
  rd : RdB wr w.heap.size A2 r
  cap : r.length ≤ c2 ∧ c2 ≤ 9223372036854775807
  bok : byteOk r
  ok : recsOk rs
  nok : byteOk now
  nl : now.length ≤ 4096
  nm : now.length % 26 = 0
  bel : Below w.heap.size w wr
  fresh : ∀ g, own1 = some g → w.heap.size ≤ g
  pge : w.heap.size ≤ p
section
variable {w : World} {p : Nat} {b : List Int} {rs : List (List Int)} {now r : List Int} {A2 : Option Addr} {c2 : Nat} {B1 : List (List Int)} {own1 : Option Nat} {A1 : Option Addr} {c1 : Nat} {wr : World}
theorem OpnL.blen (h : OpnL w p b rs now r A2 c2 B1 own1 A1 c1 wr) : B1.length = needs rs + need now := by rw [h.blks, List.length_append, brecs_len, part_len]
theorem OpnL.done (h : OpnL w p b rs now r A2 c2 B1 own1 A1 c1 wr) (he : 16384 ≤ B1.length ∨ r.length < 32 ∨ formed (B1.length + 1) (r.take 32) = false ∨ 4096 < now.length + bsize (r.take 32)) : rs = opn b := by
  rw [← h.tot]
  have : opnA (16384 - B1.length) B1.length now r = [] := by
    rcases he with he | he | he
    · rw [show 16384 - B1.length = 0 by omega]; rfl
    · exact opnA_short _ _ _ _ he
    · exact opnA_bad _ _ _ _ he
  rw [this, List.append_nil]
variable {wn : World} {own2 : Option Nat} {A3 : Option Addr} {c3 : Nat} {A4 : Option Addr} {c4 : Nat}
theorem OpnL.nextL (h : OpnL w p b rs now r A2 c2 B1 own1 A1 c1 wr) (hB : B1.length < 16384) (hr : 32 ≤ r.length) {x : List Int} (hx : x = r.take 32) (hf : formed (B1.length + 1) x = true) (hs : now.length + bsize x ≤ 4096) (hl : blast x = true)
    (hst : StV wn p own2 (B1 ++ [x]) 0 A3 c3) (hrd : RdB wn w.heap.size A4 (r.drop 32)) (hc : r.length - 32 ≤ c4 ∧ c4 ≤ 9223372036854775807) (hb : Below w.heap.size w wn) (hfr : ∀ g, own2 = some g → w.heap.size ≤ g) :
    OpnL w p b (rs ++ [now ++ bdata x]) [] (r.drop 32) A4 c4 (B1 ++ [x]) own2 A3 c3 wn := by
  have hxl : x.length = 32 := by rw [hx]; simp; omega
  obtain ⟨hx1, hx2, hx3, hx4⟩ := formed_eq hf
  have hdl := bdata_len hxl hx3
  have hne : bdata x ≠ [] := fun e => by rw [e] at hdl; simp at hdl; omega
  have hxb : byteOk x := by rw [hx]; exact byteOk_take h.bok 32
  have hdb : byteOk (bdata x) := byteOk_take (byteOk_drop hxb _) _
  refine ⟨hst, ?_, ?_, hrd, by rw [List.length_drop]; exact hc, byteOk_drop h.bok 32, ?_, fun y hy => by simp at hy, by simp, rfl, hb, hfr, h.pge⟩
  · rw [part_nil, List.append_nil, brecs_snoc, brec_part now (bdata x) hne (by omega) h.nm]
    rw [hl] at hx1
    conv => lhs; rw [hx1, h.blen, h.blks]
    simp
  · rw [← h.tot, List.length_append, List.length_singleton, show 16384 - B1.length = (16384 - (B1.length + 1)) + 1 by omega, opnA_last _ _ _ _ hr (by rw [← hx]; exact hf) (by rw [← hx]; exact hs) (by rw [← hx]; exact hl), ← hx]
    simp
  · exact recsOk_snoc h.ok (byteOk_app h.nok hdb) (by simp; omega) (by simp; omega)
theorem OpnL.nextM (h : OpnL w p b rs now r A2 c2 B1 own1 A1 c1 wr) (hB : B1.length < 16384) (hr : 32 ≤ r.length) {x : List Int} (hx : x = r.take 32) (hf : formed (B1.length + 1) x = true) (hs : now.length + bsize x ≤ 4096) (hl : blast x = false)
    (hst : StV wn p own2 (B1 ++ [x]) 0 A3 c3) (hrd : RdB wn w.heap.size A4 (r.drop 32)) (hc : r.length - 32 ≤ c4 ∧ c4 ≤ 9223372036854775807) (hb : Below w.heap.size w wn) (hfr : ∀ g, own2 = some g → w.heap.size ≤ g) :
    OpnL w p b rs (now ++ bdata x) (r.drop 32) A4 c4 (B1 ++ [x]) own2 A3 c3 wn := by
  have hxl : x.length = 32 := by rw [hx]; simp; omega
  obtain ⟨hx1, hx2, hx3, hx4⟩ := formed_eq hf
  have hdl := bdata_len hxl hx3
  have h26 : bsize x = 26 := by
    rcases hx4 with e | e
    · rw [hl] at e; cases e
    · exact e
  have hxb : byteOk x := by rw [hx]; exact byteOk_take h.bok 32
  have hdb : byteOk (bdata x) := byteOk_take (byteOk_drop hxb _) _
  have hnm := h.nm
  refine ⟨hst, ?_, ?_, hrd, by rw [List.length_drop]; exact hc, byteOk_drop h.bok 32, h.ok, byteOk_app h.nok hdb, by rw [List.length_append]; omega, by rw [List.length_append]; omega, hb, hfr, h.pge⟩
  · rw [part_snoc now (bdata x) (by omega) h.nm]
    rw [hl] at hx1
    conv => lhs; rw [hx1, h.blen, h.blks]
    simp
  · rw [← h.tot, List.length_append, List.length_singleton, show 16384 - B1.length = (16384 - (B1.length + 1)) + 1 by omega, opnA_more _ _ _ _ hr (by rw [← hx]; exact hf) (by rw [← hx]; exact hs) (by rw [← hx]; exact hl), ← hx]
end
theorem own_take {w : World} {base n k size : Nat} {e : TypeId} {A : Option Addr} {c : Nat} {xs : List Value} (h : w.ownsRow base e size (.slice A n c) n xs) (hk : k ≤ n) : w.ownsRow base e size (.slice A k c) k (xs.take (k * size)) := by
  refine ⟨by rw [List.length_take, h.1]; exact Nat.min_eq_left (Nat.mul_le_mul_right _ hk), ?_⟩
  rcases h.2 with ⟨h1, h2⟩ | ⟨g, cap, cur, h1, h2, h3, h4, h5, h6, h7⟩
  · injection h1 with a1 a2 a3
    left
    subst a1 a3
    have : k = 0 := by omega
    subst this
    exact ⟨rfl, rfl⟩
  · injection h1 with a1 a2 a3
    right
    subst a1 a3
    refine ⟨g, c, cur, rfl, h2, h3, by omega, h5, h6, ?_⟩
    rw [← h7, List.take_take, Nat.min_eq_left (Nat.mul_le_mul_right _ hk)]
/-- what is read, in memory -/
def OpenPost (b : List Int) (w : World) (e : Ending) (w' : World) : Prop :=
  ∃ p own, e = .returned (.pointer (some ⟨p, 0, none⟩)) ∧ St w' p own (brecs 0 (opn b)) (needs (opn b)) ∧ Below w.heap.size w w' ∧ w.heap.size ≤ p ∧ (∀ g, own = some g → w.heap.size ≤ g) ∧ recsOk (opn b) ∧ needs (opn b) ≤ 16384
theorem openPost_of {w wr : World} {p : Nat} {b : List Int} {rs : List (List Int)} {now r : List Int} {A2 : Option Addr} {c2 : Nat} {B1 : List (List Int)} {own1 : Option Nat} {A1 : Option Addr} {c1 : Nat} (h : OpnL w p b rs now r A2 c2 B1 own1 A1 c1 wr) (he : rs = opn b) :
    OpenPost b w (.returned (.pointer (some ⟨p, 0, none⟩))) ((wr.setCell ⟨p, 0, none⟩ (.slice A1 (needs rs) c1)).setCell ⟨p, 1, none⟩ (.int .i64 (needs rs))) := by
  have hl := h.blen
  have hle := h.st.len
  have hfl : B1.flatten.take (needs rs * 32) = (brecs 0 rs).flatten := by
    have h1 := flat_len (brecs 0 rs) (fun x hx => (brecs_each rs (fun r hr => (h.ok r hr).1) 0 x hx).1)
    rw [brecs_len] at h1
    rw [h.blks, List.flatten_append, List.take_append_of_le_length (by omega), List.take_of_length_le (by omega)]
  refine ⟨p, own1, rfl, ⟨A1, c1, ?_, ?_, ?_, ?_, ?_, ?_⟩, ?_, h.pge, h.fresh, he ▸ h.ok, by rw [← he]; omega⟩
  · rw [h.st.own_]; cases A1 <;> rfl
  · rw [← he, brecs_len]
    have := (h.st.box.set_ 0 (.slice A1 (needs rs) c1)).set_ 1 (.int .i64 (needs rs))
    simpa using this
  · rw [← he, brecs_len]
    have h1 := own_take (k := needs rs) h.st.row (by omega)
    have h2 : (u8s B1.flatten).take (needs rs * 32) = u8s (brecs 0 rs).flatten := by
      rw [← hfl]; unfold u8s; rw [List.map_take]
    rw [h2] at h1
    have hk : Chg (fun k => k = p) wr ((wr.setCell ⟨p, 0, none⟩ (.slice A1 (needs rs) c1)).setCell ⟨p, 1, none⟩ (.int .i64 (needs rs))) := ((Chg.refl (fun k => k = p) wr).setCell (p := ⟨p, 0, none⟩) (fun _ => rfl) _).setCell (p := ⟨p, 1, none⟩) (fun _ => rfl) _
    exact own_chg h1 hk (fun g e hg => own_blk_ne h1 h.st.box ne5961 (by rw [e, hg]))
  · rw [← he]; exact brecs_each rs (fun r hr => (h.ok r hr).1) 0
  · rw [← he, brecs_len]; omega
  · rw [← he, brecs_len]; omega
  · exact (h.bel.setCell (p := ⟨p, 0, none⟩) h.pge _).setCell (p := ⟨p, 1, none⟩) h.pge _
end Go.Proofs.Ytabnlnhnefjebaa
