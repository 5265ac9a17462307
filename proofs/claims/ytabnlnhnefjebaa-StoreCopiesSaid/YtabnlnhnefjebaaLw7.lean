/-
  Chapter 41: play: calls on a store and on its reference. The memory is that of the given program; no conditions.
-/
import Derived.Test.YtabnlnhnefjebaaLw5
import Derived.Test.YtabnlnhnefjebaaLw6
namespace Go.Proofs.Ytabnlnhnefjebaa
open Go.RowKit
set_option linter.unusedVariables false
set_option linter.unusedSimpArgs false
theorem rf_new (w : World) (q : Nat) (hq : q = w.heap.size) : Rf (w.alloc (.cells #[.slice none 0 0, .int .i64 0] 48)) q none [] 0 := by
  subst hq
  exact ⟨none, 0, [], ⟨rfl, Blk.new _ _ _, World.ownsRow_nil _ _ _ _, RecV.nil _ _, fun r hr => by simp at hr, by rw [needs_nil]; omega, by rw [needs_nil]; omega⟩⟩
theorem only_chg {g : Nat} {w wr w1 : World} {S : Nat → Prop} (h : Only g w wr) (k : Chg S wr w1) (hs : ∀ i, i < w.heap.size → ¬ S i) : Only g w w1 :=
  ⟨k.os.trans h.os, k.tape.trans h.tape, k.output.trans h.output, Nat.le_trans h.size k.size, fun i hi hn => (k.block i (Nat.lt_of_lt_of_le hi h.size) (hs i hi)).trans (h.block i hi hn)⟩
/-- the loop's state -/
structure PL (w : World) (g : Nat) (N : Int) (p q : Nat) (own own' : Option Nat) (rs : List (List Int)) (sy : Nat) (wr : World) : Prop where
  ps : PS wr g N p own q own' rs sy w.heap.size
  on : Only g w wr
def PlayPost (g : Nat) (N : Int) (w : World) (e : Ending) (w' : World) : Prop :=
  ∃ p q own own' rs sy, e = .returned (.tuple #[.pointer (some ⟨p, 0, none⟩), .pointer (some ⟨q, 0, none⟩), .bool true]) ∧ PL w g N p q own own' rs sy w'
section
variable {w wr w' w1 w2 w3 : World} {g : Nat} {N N' : Int} {p q : Nat} {own own' own1 own2 : Option Nat} {rs : List (List Int)} {sy : Nat}
theorem PL.drawn (h : PL w g N p q own own' rs sy wr) (k : Only g wr w') (hD : Deck w' g N') : PL w g N' p q own own' rs sy w' := ⟨h.ps.drawn k hD, h.on.trans k⟩
theorem PL.more (h : PL w g N p q own own' rs sy wr) (hN : N ≤ N') : PL w g N' p q own own' rs sy wr := ⟨h.ps.more hN, h.on⟩
theorem PL.below (h : PL w g N p q own own' rs sy wr) (k : Below wr.heap.size wr w') : PL w g N p q own own' rs sy w' := ⟨h.ps.below k, h.on.trans (Only.of_below k g)⟩
theorem PL.sync (h : PL w g N p q own own' rs sy wr) (h1 : St w1 p own (brecs 0 rs) (brecs 0 rs).length) (k1 : Only p wr w1) (h2 : Rf w2 q own' rs (needs rs)) (k2 : Only q w1 w2) : PL w g N p q own own' rs (needs rs) w2 := by
  have hp := h.ps.pge
  have hq := h.ps.qge
  exact ⟨h.ps.sync h1 k1 h2 k2, only_chg (only_chg h.on (k1.chg (S := fun k => k = p) rfl) (fun i hi e => by omega)) (k2.chg (S := fun k => k = q) rfl) (fun i hi e => by omega)⟩
theorem PL.app {b : List Int} (h : PL w g N p q own own' rs sy wr) (h1 : St w1 p own1 (appB (brecs 0 rs) b) sy) (o1 : own1 = own ∨ ∃ k, own1 = some k ∧ wr.heap.size ≤ k) (k1 : Chg (fun k => k = p ∨ own = some k) wr w1)
    (h2 : Rf w2 q own2 (appR rs b) sy) (o2 : own2 = own' ∨ ∃ k, own2 = some k ∧ w1.heap.size ≤ k) (k2 : Chg (fun k => k = q ∨ own' = some k) w1 w2) : PL w g N p q own1 own2 (appR rs b) sy w2 := by
  have hp := h.ps.pge
  have hq := h.ps.qge
  refine ⟨h.ps.app h1 o1 k1 h2 o2 k2, only_chg (only_chg h.on k1 (fun i hi e => ?_)) k2 (fun i hi e => ?_)⟩
  · rcases e with e | e
    · omega
    · have := h.ps.oge i e; omega
  · rcases e with e | e
    · omega
    · have := h.ps.oge' i e; omega
theorem PL.ref1 (h : PL w g N p q own own' rs sy wr) (k1 : Only p wr w1) : Rf w1 q own' rs sy := h.ps.rf.besideSt h.ps.st (k1.chg (.inl rfl))
end
theorem new_at {w : World} {p : Nat} (hp : Hid (p = w.heap.size)) : Calls Try.prog 18 #[] w (fun e w' => e = .returned (.pointer (some ⟨p, 0, none⟩)) ∧ w' = w.alloc (.cells #[.slice none 0 0, .int .i64 0] 59)) := by
  rw [hp.out]; exact new_any w
theorem play_start {w w1 : World} {p q g : Nat} {N : Int} (hp : Hid (p = w.heap.size)) (h1 : Hid (w1 = w.alloc (.cells #[.slice none 0 0, .int .i64 0] 59))) (hq : Hid (q = w1.heap.size)) (hD : Hid (Deck w g N)) (hg : Hid (g < w.heap.size)) :
    Hid (PL w g N p q none none [] 0 (w1.alloc (.cells #[.slice none 0 0, .int .i64 0] 48))) := by
  have e1 : w1.heap.size = w.heap.size + 1 := by rw [h1.out]; simp
  have s1 : St w1 p none [] 0 := by rw [h1.out]; exact st_new w p hp.out
  have b2 : Below w1.heap.size w1 (w1.alloc (.cells #[.slice none 0 0, .int .i64 0] 48)) := (Below.refl _ _).alloc (Nat.le_refl _) _
  have d1 : Deck w1 g N := by rw [h1.out]; exact hD.out.alloc _
  have o1 : Only g w w1 := by rw [h1.out]; exact (Only.refl g w).alloc _
  refine Lib.hid ⟨⟨d1.alloc _, s1.below b2, rf_new w1 q hq.out, hg.out, ?_, ?_, (fun k e => by cases e), (fun k e => by cases e)⟩, o1.alloc _⟩
  · rw [hp.out]; exact Nat.le_refl _
  · rw [hq.out]; omega
theorem append_at {w : World} {p m gb : Nat} {own : Option Nat} {B : List (List Int)} {sy : Nat} {l : List Int} {er : Int} (he : Hid (er = appE B l.length)) (h : St w p own B sy) (hl : Hid (l.length = m)) (hb : Hid (Blk w gb 5 (u8s l).toArray)) (hok : Hid (byteOk l)) (hm : m ≤ 100) :
    Calls Try.prog 19 #[.pointer (some ⟨p, 0, none⟩), .slice (some ⟨gb, 0, none⟩) m m] w (fun e w' => e = .returned (.int .i64 er) ∧ ∃ own', St w' p own' (appB B l) sy ∧ (own' = own ∨ ∃ g, own' = some g ∧ w.heap.size ≤ g) ∧ Chg (fun k => k = p ∨ own = some k) w w') := by
  rw [he.out]
  exact append_any p own B sy _ m m l w (Lib.hid hl.out.symm) h (rdB_blk hb.out) (Nat.le_refl _) (by omega) hok.out (ap_of h hb.out (by decide) (by decide))
theorem rappend_at {w : World} {q m gb : Nat} {own : Option Nat} {rs : List (List Int)} {sy : Nat} {l : List Int} {er : Int} (he : Hid (er = appE (brecs 0 rs) l.length)) (h : Rf w q own rs sy) (hl : Hid (l.length = m)) (hb : Hid (Blk w gb 5 (u8s l).toArray)) (hok : Hid (byteOk l)) :
    Calls Try.prog 33 #[.pointer (some ⟨q, 0, none⟩), .slice (some ⟨gb, 0, none⟩) m m] w (fun e w' => e = .returned (.int .i64 er) ∧ ∃ own', Rf w' q own' (appR rs l) sy ∧ (own' = own ∨ ∃ g, own' = some g ∧ w.heap.size ≤ g) ∧ Chg (fun k => k = q ∨ own = some k) w w') := by
  rw [he.out]
  exact rappend_any q own rs sy _ m m l w (Lib.hid hl.out.symm) h (rdB_blk hb.out) hok.out
set_option maxRecDepth 100000 in
set_option maxHeartbeats 3200000 in
theorem play_any (g : Nat) (N : Int) (n : Nat) (w : World) (hD : Deck w g N) (hN : N ≤ 500000) (hn : n ≤ 100) :
    Calls Try.prog 22 #[.pointer (some ⟨g, 0, none⟩), .int .i64 n] w (PlayPost g (N + 103 * n + 1) w) := by
  have HD := Lib.hid hD
  have HG := Lib.hid hD.lt
  clear hD
  go_enter Try.func22, Try.ntmps22
  obtain ⟨p, Hp⟩ : ∃ p, Hid (p = w.heap.size) := ⟨_, Lib.hid rfl⟩
  go_wp2_with (go_at_call 18; refine (new_at Hp).mono ?_; rintro e w1 ⟨rfl, hw1⟩; have Hw1 := Lib.hid hw1; clear hw1)
  obtain ⟨q, Hq⟩ : ∃ q, Hid (q = w1.heap.size) := ⟨_, Lib.hid rfl⟩
  rw [← Hq.out]
  have HL0 := play_start Hp Hw1 Hq HD HG
  go_loopw [9] (fun i wr => ∃ (k : Nat) (own own' : Option Nat) (rs : List (List Int)) (sy : Nat), k ≤ n ∧ i = .int .i64 k ∧ PL w g (N + 103 * k) p q own own' rs sy wr) (fun i _ => n - (intOf i).toNat)
  case atStart => exact ⟨0, none, none, [], 0, Nat.zero_le _, rfl, HL0.out.more (by omega)⟩
  case round =>
    obtain ⟨k, own, own', rs, sy, hk, rfl, hps⟩ := hrel
    have HP := Lib.hid hps
    clear hps
    by_cases hlt : k < n
    · go_wp2_with fail
      refine (left_any g (N + 103 * k) _ HP.out.ps.deck (by omega)).mono ?_
      rintro e w1 ⟨b, rfl, ho, hD'⟩
      have HP := Lib.hid (HP.out.drawn ho hD')
      clear ho hD'
      cases b with
      | false =>
        go_wp2_with (go_at_call 25; refine (agree_any _ HP.out.ps.st HP.out.ps.rf).mono ?_; rintro e w9 ⟨rfl, hb9⟩; have Hb9 := Lib.hid hb9; clear hb9)
        exact bodyPost_ret (v := .tuple #[.pointer (some ⟨p, 0, none⟩), .pointer (some ⟨q, 0, none⟩), .bool true]) (by simp [results, Try.results22, go_sem]) rfl ⟨p, q, own, own', rs, sy, rfl, (HP.out.below Hb9.out).more (by omega)⟩
      | true =>
        go_wp2_with fail
        refine (next_any g (N + 103 * k) 4 _ HP.out.ps.deck (by omega) (by omega) (by omega)).mono ?_
        rintro e w2 ⟨v, rfl, hv, ho, hD'⟩
        have HP := Lib.hid (HP.out.drawn ho hD')
        clear ho hD'
        by_cases hz : v = 0
        · subst hz
          clear hv
          go_wp2_with fail
          refine (sync_any p own _ sy _ HP.out.ps.st).mono ?_
          rintro e w3 ⟨rfl, hs3, ho3⟩
          have Hs3 := Lib.hid hs3
          have Ho3 := Lib.hid ho3
          clear hs3 ho3
          go_wp2_with fail
          refine (rsync_any q own' rs sy _ (HP.out.ref1 Ho3.out)).mono ?_
          rintro e w4 ⟨rfl, hs4, ho4⟩
          have HP := Lib.hid (HP.out.sync Hs3.out Ho3.out hs4 ho4)
          clear hs4 ho4 Hs3 Ho3
          go_wp2
          go_roundw
          case rel => exact ⟨k + 1, own, own', rs, needs rs, by omega, by go_num, HP.out.more (by omega)⟩
          case measure => simp [intOf]; omega
        · have hz1 : (v == 0) = false := by simpa using hz
          clear hz hv
          go_wp2_with fail
          refine (record_any g (N + 103 * k + 1) _ HP.out.ps.deck (by omega)).mono ?_
          rintro e w3 ⟨gb, m, l, rfl, hl, hm, hok, hgb, hb, ho, hD'⟩
          have HP := Lib.hid (HP.out.drawn ho hD')
          have HL := Lib.hid hl
          have HOK := Lib.hid hok
          have HB := Lib.hid hb
          clear ho hD' hl hok hb hgb hz1
          obtain ⟨er, Her⟩ : ∃ er, Hid (er = appE (brecs 0 rs) l.length) := ⟨_, Lib.hid rfl⟩
          go_wp2_with fail
          refine (append_at Her HP.out.ps.st HL HB HOK (by omega)).mono ?_
          rintro e w4 ⟨rfl, own1, hs4, ho4, hk4⟩
          have Hs4 := Lib.hid hs4
          have Ho4 := Lib.hid ho4
          have Hk4 := Lib.hid hk4
          clear hs4 ho4 hk4
          go_wp2_with fail
          refine (rappend_at Her (HP.out.ps.rf.besideSt HP.out.ps.st Hk4.out) HL (Lib.hid (HB.out.besideSt HP.out.ps.st Hk4.out)) HOK).mono ?_
          rintro e w5 ⟨rfl, own2, hs5, ho5, hk5⟩
          have HP := Lib.hid (HP.out.app Hs4.out Ho4.out Hk4.out hs5 ho5 hk5)
          clear hs5 ho5 hk5 Hs4 Ho4 Hk4
          go_wp2
          go_roundw
          case rel => exact ⟨k + 1, own1, own2, appR rs l, sy, by omega, by go_num, HP.out.more (by omega)⟩
          case measure => simp [intOf]; omega
    · obtain rfl : k = n := by omega
      go_wp2_with (go_at_call 25; refine (agree_any _ HP.out.ps.st HP.out.ps.rf).mono ?_; rintro e w9 ⟨rfl, hb9⟩; have Hb9 := Lib.hid hb9; clear hb9)
      exact bodyPost_ret (v := .tuple #[.pointer (some ⟨p, 0, none⟩), .pointer (some ⟨q, 0, none⟩), .bool true]) (by simp [results, Try.results22, go_sem]) rfl ⟨p, q, own, own', rs, sy, rfl, (HP.out.below Hb9.out).more (by omega)⟩
theorem new_deck {w : World} {A : Option Addr} {c n g : Nat} {l : List Int} (hn : Hid (n = l.length)) (hg : Hid (g = w.heap.size)) (hr : Hid (RdI w w.heap.size A l)) (hl : Hid (l.length ≤ 9223372036854775807)) :
    Calls Try.prog 21 #[.slice A n c] w fun e w' => e = .returned (.pointer (some ⟨g, 0, none⟩)) ∧ Below w.heap.size w w' ∧ Deck w' g 0 := by
  rw [hn.out, hg.out]
  exact (deck_new A c l w hr.out hl.out).mono fun e w' h => ⟨h.1, h.2.1, h.2.2.1⟩
/-- behind the law nothing that was there has turned -/
theorem only_bel {w w1 w2 : World} {g : Nat} (hg : Hid (g = w.heap.size)) (h1 : Hid (Below w.heap.size w w1)) (h2 : Only g w1 w2) : Below w.heap.size w w2 :=
  h1.out.trans (Only.below h2 (by exact h1.out.size) (by rw [hg.out]; exact Nat.le_refl _))
theorem law_bel {w w1 w2 w3 : World} {g : Nat} (hg : Hid (g = w.heap.size)) (h1 : Hid (Below w.heap.size w w1)) (h2 : Only g w1 w2) (h3 : Hid (Bel w2 w3)) : Below w.heap.size w w3 :=
  (only_bel hg h1 h2).trans (Below.mono h3.out ((only_bel hg h1 h2).size))
end Go.Proofs.Ytabnlnhnefjebaa
