/-
  Chapter 41: what the reference's Open has read so far, in memory. The memory is that of the given program; no conditions.
-/
import Derived.Test.YtabnlnhnefjebaaRf10
import Derived.Test.YtabnlnhnefjebaaRf4
namespace Go.Proofs.Ytabnlnhnefjebaa
open Go.RowKit
set_option linter.unusedVariables false
set_option linter.unusedSimpArgs false
theorem RecV.base {w : World} {lo lo' : Nat} {rs : List (List Int)} {vs : List Value} (h : RecV w lo rs vs) (hl : lo' ≤ lo) : RecV w lo' rs vs := by
  refine ⟨h.1, fun i hi => ?_⟩
  obtain ⟨Ai, ci, h1, h2⟩ := h.2 i hi
  exact ⟨Ai, ci, h1, own_base h2 (fun g e => Nat.le_trans hl (h2.lt g e).1)⟩
/-- the numbers of Open's loop -/
structure RoP (b : List Int) (k : Nat) (rs : List (List Int)) (now : List Int) : Prop where
  tot : rs ++ opnA (16384 - k) k now (b.drop (k * 32)) = opn b
  cnt : k = needs rs + need now
  mul : now.length % 26 = 0
  ok : recsOk rs
  bok : byteOk now
  nl : now.length ≤ 4096
  kb : k ≤ 16384
section
variable {b : List Int} {k : Nat} {rs : List (List Int)} {now : List Int}
theorem RoP.start (b : List Int) : RoP b 0 [] [] := ⟨by simp [opn], by simp [needs_nil, need_nil], by simp, fun r hr => by simp at hr, fun x hx => by simp at hx, by simp, by omega⟩
theorem RoP.full (h : RoP b k rs now) (hk : ¬ k < 16384) : rs = opn b := by
  have := h.tot
  rw [show 16384 - k = 0 by omega, opnA_zero, List.append_nil] at this
  exact this
theorem RoP.short (h : RoP b k rs now) (hk : ¬ (k + 1) * 32 ≤ b.length) : rs = opn b := by
  have := h.tot
  rw [opnA_short _ _ _ _ (by rw [List.length_drop]; omega), List.append_nil] at this
  exact this
theorem RoP.bad (h : RoP b k rs now) (hf : formed (k + 1) ((b.drop (k * 32)).take 32) = false ∨ 4096 < now.length + bsize ((b.drop (k * 32)).take 32)) : rs = opn b := by
  have := h.tot
  rw [opnA_bad _ _ _ _ hf, List.append_nil] at this
  exact this
theorem RoP.needs_le (h : RoP b k rs now) : needs rs ≤ 16384 := by have := h.cnt; have := h.kb; omega
/-- the data of the next block -/
structure Nxt (b : List Int) (k : Nat) (x d : List Int) : Prop where
  x_ : x = (b.drop (k * 32)).take 32
  len : x.length = 32
  xok : byteOk x
  d_ : d = bdata x
  dlen : d.length = bsize x
  dok : byteOk d
  lo : 1 ≤ d.length
  hi : d.length ≤ 26
theorem nxt_of {b : List Int} {k : Nat} {x : List Int} (hx : x = (b.drop (k * 32)).take 32) (hb : byteOk b) (hl : (k + 1) * 32 ≤ b.length) (hf : formed (k + 1) x = true) : Nxt b k x (bdata x) := by
  have hlen : x.length = 32 := by rw [hx, List.length_take, List.length_drop]; omega
  have hxo : byteOk x := by rw [hx]; exact byteOk_take (byteOk_drop hb _) _
  obtain ⟨_, h1, h2, _⟩ := formed_eq hf
  have hd := bdata_len hlen h2
  exact ⟨hx, hlen, hxo, rfl, hd, by unfold bdata; exact byteOk_take (byteOk_drop hxo _) _, by omega, by omega⟩
theorem drop_next (b : List Int) (k : Nat) : (b.drop (k * 32)).drop 32 = b.drop ((k + 1) * 32) := by rw [List.drop_drop]; congr 1; omega
theorem RoP.stepL {x d : List Int} (h : RoP b k rs now) (hn : Nxt b k x d) (hk : k < 16384) (hl : (k + 1) * 32 ≤ b.length) (hf : formed (k + 1) x = true) (hs : now.length + bsize x ≤ 4096) (hla : blast x = true) : RoP b (k + 1) (rs ++ [now ++ d]) [] := by
  have e0 := hn.x_
  have e1 := hn.d_
  have h1 := hn.lo
  have h2 := hn.hi
  have h3 := hn.dlen
  have hnd : need (now ++ d) = need now + 1 := by rw [need_app _ _ h.mul, need_small d h1 h2]
  refine ⟨?_, by rw [needs_snoc, hnd, need_nil]; have := h.cnt; omega, by simp, recsOk_snoc h.ok (byteOk_app h.bok hn.dok) (by simp; omega) (by simp; omega), fun x hx => by simp at hx, by simp, by omega⟩
  have ht := h.tot
  rw [show 16384 - k = (16384 - (k + 1)) + 1 by omega, opnA_last _ _ _ _ (by rw [List.length_drop]; omega) (by rw [← e0]; exact hf) (by rw [← e0]; exact hs) (by rw [← e0]; exact hla), ← e0, ← e1, drop_next] at ht
  rw [← ht]; simp
theorem RoP.stepM {x d : List Int} (h : RoP b k rs now) (hn : Nxt b k x d) (hk : k < 16384) (hl : (k + 1) * 32 ≤ b.length) (hf : formed (k + 1) x = true) (hs : now.length + bsize x ≤ 4096) (hla : blast x = false) : RoP b (k + 1) rs (now ++ d) := by
  have e0 := hn.x_
  have e1 := hn.d_
  have h1 := hn.lo
  have h2 := hn.hi
  have h3 := hn.dlen
  have h26 : d.length = 26 := by
    obtain ⟨_, _, _, q⟩ := formed_eq hf
    rcases q with q | q
    · rw [hla] at q; cases q
    · omega
  have hnd : need (now ++ d) = need now + 1 := by rw [need_app _ _ h.mul, need_small d h1 h2]
  refine ⟨?_, by rw [hnd]; have := h.cnt; omega, by rw [List.length_append]; have := h.mul; omega, h.ok, byteOk_app h.bok hn.dok, by rw [List.length_append]; omega, by omega⟩
  have ht := h.tot
  rw [show 16384 - k = (16384 - (k + 1)) + 1 by omega, opnA_more _ _ _ _ (by rw [List.length_drop]; omega) (by rw [← e0]; exact hf) (by rw [← e0]; exact hs) (by rw [← e0]; exact hla), ← e0, ← e1, drop_next] at ht
  exact ht
end
/-- the memory of Open's loop: the records n3, the record that is not whole n4 -/
structure RoM (w : World) (q : Nat) (rs : List (List Int)) (now : List Int) (vs : List Value) (A3 : Option Addr) (c3 n3 : Nat) (A4 : Option Addr) (c4 n4 : Nat) (wr : World) : Prop where
  e3 : rs.length = n3
  e4 : now.length = n4
  box : Blk wr q 48 #[.slice A3 n3 c3, .int .i64 0]
  row : wr.ownsRow w.heap.size 23 1 (.slice A3 n3 c3) n3 vs
  recs : RecV wr w.heap.size rs vs
  now_ : wr.ownsRow w.heap.size 5 1 (.slice A4 n4 c4) n4 (u8s now)
  sep : sepV vs (Value.slice A4 n4 c4).ownBlock
  bel : Below w.heap.size w wr
  qge : w.heap.size ≤ q
section
variable {w : World} {q : Nat} {rs : List (List Int)} {now : List Int} {vs : List Value} {A3 : Option Addr} {c3 n3 : Nat} {A4 : Option Addr} {c4 n4 : Nat} {wr w' : World}
theorem RoM.start {w : World} {q : Nat} (hq : q = w.heap.size) : RoM w q [] [] [] none 0 0 none 0 0 (w.alloc (.cells #[.slice none 0 0, .int .i64 0] 48)) := by
  subst hq
  exact ⟨rfl, rfl, Blk.new _ _ _, World.ownsRow_nil _ _ _ _, RecV.nil _ _, World.ownsRow_nil _ _ _ _, (fun v hv => by simp at hv), (Below.refl _ _).alloc (Nat.le_refl _) _, Nat.le_refl _⟩
theorem RoM.drewN (h : RoM w q rs now vs A3 c3 n3 A4 c4 n4 wr) (k : Nat) : RoM w q rs now vs A3 c3 n3 A4 c4 n4 (wr.drewN k) := ⟨h.e3, h.e4, h.box, h.row, h.recs, h.now_, h.sep, below_drewN h.bel k, h.qge⟩
theorem RoM.nil (h : RoM w q rs now vs A3 c3 n3 A4 c4 n4 wr) : RoM w q rs [] vs A3 c3 n3 none 0 0 wr :=
  ⟨h.e3, rfl, h.box, h.row, h.recs, World.ownsRow_nil _ _ _ _, fun v hv g e h' => by simp [Value.ownBlock] at h', h.bel, h.qge⟩
theorem RoM.add (h : RoM w q rs now vs A3 c3 n3 A4 c4 n4 wr) {d : List Int} {s : Nat} {A5 : Option Addr} {c5 : Nat} (hs : d.length = s)
    (ho : w'.ownsRow w.heap.size 5 1 (.slice A5 (n4 + s) c5) (n4 + s) (u8s now ++ u8s d)) (hg : wr.grownBy w' (Value.slice A4 n4 c4).ownBlock)
    (hx : (Value.slice A5 (n4 + s) c5).ownBlock = (Value.slice A4 n4 c4).ownBlock ∨ (Value.slice A5 (n4 + s) c5).ownBlock = some wr.heap.size) : RoM w q rs (now ++ d) vs A3 c3 n3 A5 c5 (n4 + s) w' := by
  have hk : Chg (fun g => (Value.slice A4 n4 c4).ownBlock = some g) wr w' := Chg.of_grown hg (fun i _ e => e)
  refine ⟨h.e3, by rw [List.length_append, h.e4, hs], h.box.chg hk (own_blk_ne h.now_ h.box ne548), own_chg h.row hk (fun g e h' => ?_), h.recs.keep hk (fun v hv g e h' => h.sep v hv g e h'), by rw [u8s_app]; exact ho, ?_, ?_, h.qge⟩
  · rcases h.row.2 with ⟨h3, _⟩ | ⟨g', cap, cur, h3, _, hh, _⟩
    · rw [h3] at e; simp [Value.ownBlock] at e
    · rw [h3] at e
      simp [Value.ownBlock] at e
      subst e
      exact own_blk_ne h.now_ (g := g') (t := 23) (cs := cur) hh (fun e => ne235 e.symm) h'
  · intro v hv g e
    rcases hx with hx | hx
    · rw [hx]; exact h.sep v hv g e
    · rw [hx]
      intro e2
      injection e2 with e2
      obtain ⟨cs, hcs⟩ := h.recs.typ v hv g e
      have := hcs.lt
      omega
  · exact h.bel.trans ((Below.refl w.heap.size wr).grown hg h.bel.size (fun k hk => (h.now_.lt k hk).1))
/-- the record that is whole now is one of the records -/
theorem RoM.push (h : RoM w q rs now vs A3 c3 n3 A4 c4 n4 wr) {A6 : Option Addr} {c6 : Nat} {w6 : World}
    (ho2 : w6.ownsRow w.heap.size 23 1 (.slice A6 (n3 + 1) c6) (n3 + 1) (vs ++ [.slice A4 n4 c4])) (hg : (wr.alloc (.cells #[.slice A4 n4 c4] 23)).grownBy w6 (Value.slice A3 n3 c3).ownBlock) :
    RoM w q (rs ++ [now]) [] (vs ++ [.slice A4 n4 c4]) A6 c6 (n3 + 1) none 0 0 (w6.setCell ⟨q, 0, none⟩ (.slice A6 (n3 + 1) c6)) := by
  have hk2 : Chg (fun g => (Value.slice A3 n3 c3).ownBlock = some g) wr w6 := ((Chg.refl _ wr).alloc _).trans (Chg.of_grown hg (fun i _ e => e)) (fun _ _ h => h)
  have hne : ∀ g cs, Blk wr g 5 cs → (Value.slice A3 n3 c3).ownBlock ≠ some g := fun g cs hc => own_blk_ne h.row hc ne235
  have hnow : ∀ g, (Value.slice A4 n4 c4).ownBlock = some g → ∃ cs, Blk wr g 5 cs := fun g e => by
    rcases h.now_.2 with ⟨h3, _⟩ | ⟨g', cap, cur, h3, _, hh, _⟩
    · rw [h3] at e; simp [Value.ownBlock] at e
    · rw [h3] at e
      simp [Value.ownBlock] at e
      subst e
      exact ⟨cur, hh⟩
  have ho' : w6.ownsRow w.heap.size 5 1 (.slice A4 n4 c4) n4 (u8s now) := own_chg h.now_ hk2 (fun g e h' => by
    obtain ⟨cs, hcs⟩ := hnow g e
    exact hne g cs hcs h')
  have hr' : RecV w6 w.heap.size rs vs := h.recs.keep hk2 (fun v hv g e h' => by
    obtain ⟨cs, hcs⟩ := h.recs.typ v hv g e
    exact hne g cs hcs h')
  have box6 : Blk w6 q 48 #[.slice A3 n3 c3, .int .i64 0] := h.box.chg hk2 (own_blk_ne h.row h.box ne2348)
  have hrec : RecV w6 w.heap.size (rs ++ [now]) (vs ++ [.slice A4 n4 c4]) := by
    have e := h.e4
    subst e
    exact hr'.snoc ho'
  have hap : (Value.slice A6 (n3 + 1) c6).ownBlock ≠ some q := own_blk_ne ho2 box6 ne2348
  have hkq : Chg (fun k => k = q) w6 (w6.setCell ⟨q, 0, none⟩ (.slice A6 (n3 + 1) c6)) := (Chg.refl (fun k => k = q) w6).setCell (p := ⟨q, 0, none⟩) (fun _ => rfl) _
  refine ⟨by simp [h.e3], rfl, ?_, ?_, ?_, World.ownsRow_nil _ _ _ _, fun v hv g e h' => by simp [Value.ownBlock] at h', ?_, h.qge⟩
  · simpa using box6.set_ 0 (.slice A6 (n3 + 1) c6)
  · exact own_chg ho2 hkq (fun g e h => hap (by rw [e, h]))
  · exact hrec.keep hkq (fun v hv g e h' => by
      obtain ⟨cs, hcs⟩ := hrec.typ v hv g e
      exact hcs.ne_ box6 ne548 h')
  · have h1 : Below w.heap.size w w6 := h.bel.trans (((Below.refl w.heap.size wr).alloc h.bel.size _).trans ((Below.refl w.heap.size (wr.alloc (.cells #[.slice A4 n4 c4] 23))).grown hg (by have := h.bel.size; simp; omega) (fun k hk => (h.row.lt k hk).1)))
    exact h1.setCell (p := ⟨q, 0, none⟩) h.qge _
/-- it is a store of the reference -/
theorem RoM.rf (h : RoM w q rs now vs A3 c3 n3 A4 c4 n4 wr) (hok : recsOk rs) (hl : needs rs ≤ 16384) : Rf wr q (Value.slice A3 n3 c3).ownBlock rs 0 := by
  have e := h.e3
  subst e
  exact ⟨A3, c3, vs, rfl, h.box, own_base h.row (fun _ _ => Nat.zero_le _), h.recs.base (Nat.zero_le _), hok, hl, Nat.zero_le _⟩
end
/-- what the reference's Open returns -/
def ROpenPost (b : List Int) (w : World) (e : Ending) (w' : World) : Prop :=
  ∃ q own, e = .returned (.pointer (some ⟨q, 0, none⟩)) ∧ Rf w' q own (opn b) (needs (opn b)) ∧ Below w.heap.size w w' ∧ w.heap.size ≤ q ∧ ∀ g, own = some g → w.heap.size ≤ g
theorem ropen_post {w : World} {q : Nat} {b : List Int} {k : Nat} {rs : List (List Int)} {now : List Int} {vs : List Value} {A3 : Option Addr} {c3 n3 : Nat} {A4 : Option Addr} {c4 n4 : Nat} {wr w' : World} (h : RoM w q rs now vs A3 c3 n3 A4 c4 n4 wr) (he : rs = opn b) (h2 : Rf w' q (Value.slice A3 n3 c3).ownBlock rs (needs rs)) (k2 : Only q wr w') : ROpenPost b w (.returned (.pointer (some ⟨q, 0, none⟩))) w' := by
  rw [he] at h2
  refine ⟨q, _, rfl, h2, h.bel.trans (Only.below k2 h.bel.size h.qge), h.qge, fun g e => (h.row.lt g e).1⟩
end Go.Proofs.Ytabnlnhnefjebaa
