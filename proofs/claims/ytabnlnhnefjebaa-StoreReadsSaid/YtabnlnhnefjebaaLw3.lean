/-
  Chapter 41: the walk of StoreReads. The memory is that of the given program; no conditions.
-/
import Derived.Test.YtabnlnhnefjebaaLw2
import Derived.Test.YtabnlnhnefjebaaRf6
import Derived.Test.YtabnlnhnefjebaaOpen
namespace Go.Proofs.Ytabnlnhnefjebaa
open Go.RowKit
set_option linter.unusedVariables false
set_option linter.unusedSimpArgs false
theorem opn_one_long (n : Nat) (hn : 4096 < n) : opn (bytes [[7], zeroN n, [8]]) = [[7]] := by
  have e1 : bytes [[7], zeroN n, [8]] = blk 1 [7] true ++ ((brec 1 (zeroN n)).flatten ++ (brec (1 + need (zeroN n)) [8]).flatten) := by
    unfold bytes
    rw [brecs, brecs, brecs, brecs, brec_cons 0 [7] (by simp)]
    have e2 : ([7] : List Int).drop 26 = [] := rfl
    rw [e2, brec_nil]
    simp
    rfl
  have hne : zeroN n ≠ [] := fun e => by have := congrArg List.length e; rw [zeroN_len] at this; simp at this; omega
  have h : ∀ k, opnA (k + 1) 0 [] (bytes [[7], zeroN n, [8]]) = [[7]] := fun k => by
    rw [e1, opnA_blk k 0 [] [7] _ true (by simp) (by simp) (.inl rfl) (by simp), if_pos rfl, opnA_long (zeroN n) k 1 [] _ (by rw [zeroN_len]; simp; omega) hne]
    rfl
  exact h 16383
theorem one_ok (n : Nat) (h1 : 1 ≤ n) (h2 : n ≤ 4096) : recsOk [[7], zeroN n, [8]] := by
  intro r hr
  simp at hr
  rcases hr with rfl | rfl | rfl
  · exact ⟨fun x hx => by simp at hx; omega, by simp, by simp⟩
  · exact ⟨zeroN_ok n, by rw [zeroN_len]; exact h1, by rw [zeroN_len]; exact h2⟩
  · exact ⟨fun x hx => by simp at hx; omega, by simp, by simp⟩
theorem one_needs (n : Nat) : needs [[7], zeroN n, [8]] = (n + 25) / 26 + 2 := by
  rw [needs_cons, needs_cons, needs_cons, needs_nil]
  unfold need
  rw [zeroN_len]
  simp
  omega
theorem opn_one (n : Nat) (h1 : 1 ≤ n) (h2 : n ≤ 4096) : opn (bytes [[7], zeroN n, [8]]) = [[7], zeroN n, [8]] := opn_bytes _ (one_ok n h1 h2) (by rw [one_needs]; omega)
/-- the many records -/
def many (j i : Nat) : List (List Int) := List.replicate j (zeroN 4096) ++ List.replicate i [1]
theorem many_len (j i : Nat) : (many j i).length = j + i := by simp [many]
theorem needs_rep (j : Nat) (r : List Int) : needs (List.replicate j r) = j * need r := by
  induction j with
  | zero => simp [needs]
  | succ j ih => rw [List.replicate_succ, needs_cons, ih, Nat.succ_mul]; omega
theorem many_needs (j i : Nat) : needs (many j i) = j * 158 + i := by
  unfold many
  rw [needs_app, needs_rep, needs_rep]
  have e1 : need (zeroN 4096) = 158 := by unfold need; rw [zeroN_len]
  have e2 : need [1] = 1 := rfl
  rw [e1, e2, Nat.mul_one]
theorem many_ok (j i : Nat) : recsOk (many j i) := by
  intro r hr
  rcases List.mem_append.1 hr with hr | hr
  · rw [List.eq_of_mem_replicate hr]; exact ⟨zeroN_ok _, by rw [zeroN_len]; omega, by rw [zeroN_len]; omega⟩
  · rw [List.eq_of_mem_replicate hr]; exact ⟨fun x hx => by simp at hx; omega, by simp, by simp⟩
theorem many_j (j : Nat) : many j 0 ++ [zeroN 4096] = many (j + 1) 0 := by simp [many, List.replicate_succ']
theorem many_i (j i : Nat) : many j i ++ [[1]] = many j (i + 1) := by
  unfold many
  rw [List.replicate_succ', List.append_assoc]
theorem opn_many (i : Nat) (hi : 103 * 158 + i ≤ 16384) : opn (bytes (many 103 i)) = many 103 i := opn_bytes _ (many_ok 103 i) (by rw [many_needs]; exact hi)
theorem opn_many1 : opn (bytes (many 103 111)) = many 103 110 := by
  have hn : needs (many 103 111) = 16385 := by rw [many_needs]
  have hd : dur (many 103 111) 16384 = 213 := by
    have h1 := dur_le (many 103 111) 16384
    rw [many_len] at h1
    have e0 : many 103 111 = many 103 110 ++ [[1]] := (many_i 103 110).symm
    have h2 := (dur_iff (many 103 111) 16384 212 (by rw [many_len]; omega)).2 (by
      rw [e0, List.take_append_of_le_length (by rw [many_len]; omega), List.take_of_length_le (by rw [many_len]; omega), many_needs]; omega)
    have h3 : ¬ 213 < dur (many 103 111) 16384 := fun h => by
      have := (dur_iff (many 103 111) 16384 213 (by rw [many_len]; omega)).1 h
      rw [List.take_of_length_le (by rw [many_len]; omega), hn] at this
      omega
    omega
  have h := opnA_recs (many 103 111) (many_ok 103 111) 16384 0 (((brecs 0 (many 103 111)).drop 16384).flatten) 16384 (Nat.le_refl _) (by rw [hn]; omega) (.inl (Nat.sub_self _))
  rw [← List.flatten_append, List.take_append_drop, hd] at h
  have e0 : many 103 111 = many 103 110 ++ [[1]] := (many_i 103 110).symm
  have e1 : (many 103 111).take 213 = many 103 110 := by
    rw [e0, List.take_append_of_le_length (by rw [many_len]; omega), List.take_of_length_le (by rw [many_len]; omega)]
  rw [e1] at h
  exact h
/-- records of the call's own -/
structure Own23 (w wr : World) (A : Option Addr) (c n : Nat) (rs : List (List Int)) (vs : List Value) : Prop where
  row : wr.ownsRow w.heap.size 23 1 (.slice A n c) n vs
  recs : RecV wr w.heap.size rs vs
  len : rs.length = n
  bel : Below w.heap.size w wr
section
variable {w wr w' : World} {A A' : Option Addr} {c c' n : Nat} {rs : List (List Int)} {vs : List Value}
theorem Own23.below (h : Own23 w wr A c n rs vs) (hb : Below wr.heap.size wr w') : Own23 w w' A c n rs vs := ⟨(own_below h.row (Lib.hid hb)).out, h.recs.below hb, h.len, h.bel.trans (hb.mono h.bel.size)⟩
theorem Own23.add (h : Own23 w wr A c n rs vs) {g m : Nat} {r : List Int} (hr : Blk wr g 5 (u8s r).toArray) (hm : r.length = m) (hm2 : m ≤ 100000) (hg : w.heap.size ≤ g)
    (ho : Hid (w'.ownsRow w.heap.size 23 1 (.slice A' (n + 1) c') (n + 1) (vs ++ [.slice (some ⟨g, 0, none⟩) m m]))) (hgr : Hid ((wr.alloc (.cells #[.slice (some ⟨g, 0, none⟩) m m] 23)).grownBy w' (Value.slice A n c).ownBlock)) :
    Own23 w w' A' c' (n + 1) (rs ++ [r]) (vs ++ [.slice (some ⟨g, 0, none⟩) m m]) := by
  have hk : Chg (fun g => (Value.slice A n c).ownBlock = some g) wr w' := ((Chg.refl _ wr).alloc _).trans (Chg.of_grown hgr.out (fun i _ e => e)) (fun _ _ h => h)
  have hne : ∀ g cs, Blk wr g 5 cs → (Value.slice A n c).ownBlock ≠ some g := fun g cs hc => own_blk_ne h.row hc ne235
  have hr' : Blk w' g 5 (u8s r).toArray := hr.chg hk (hne g _ hr)
  have hrow : w'.ownsRow w.heap.size 5 1 (.slice (some ⟨g, 0, none⟩) r.length m) r.length (u8s r) := by
    subst hm
    refine ⟨by rw [u8s_len, Nat.mul_one], .inr ⟨g, r.length, (u8s r).toArray, rfl, hg, hr', Nat.le_refl _, by unfold maxLen; omega, by simp [u8s_len], ?_⟩⟩
    rw [List.take_of_length_le (by simp [u8s_len])]
  have hrecs : RecV w' w.heap.size rs vs := h.recs.keep hk (fun v hv g e h' => by
    obtain ⟨cs, hcs⟩ := h.recs.typ v hv g e
    exact hne g cs hcs h')
  refine ⟨ho.out, ?_, by simp [h.len], ?_⟩
  · subst hm
    exact hrecs.snoc hrow
  · have hs := h.bel.size
    exact h.bel.trans (((Below.refl w.heap.size wr).alloc hs _).trans ((Below.refl w.heap.size (wr.alloc (.cells #[.slice (some ⟨g, 0, none⟩) m m] 23))).grown hgr.out (by simp; omega) (fun k hk => (h.row.lt k hk).1)))
theorem Own23.chg {v : Value} (h : Own23 w wr A c n rs vs) (hgr : Hid ((wr.alloc (.cells #[v] 23)).grownBy w' (Value.slice A n c).ownBlock)) {p : Nat} {own : Option Nat} {B : List (List Int)} {sy : Nat} (hf : FSt w wr p own B sy) (hb : Below w.heap.size w w') : FSt w w' p own B sy := by
  have hk : Chg (fun g => (Value.slice A n c).ownBlock = some g) wr w' := ((Chg.refl _ wr).alloc _).trans (Chg.of_grown hgr.out (fun i _ e => e)) (fun _ _ h => h)
  refine ⟨hf.st.keep hk ?_ ?_, hb, hf.pge, hf.fresh⟩
  · obtain ⟨A1, c1, hs⟩ := hf.st
    exact own_blk_ne h.row hs.box (by decide)
  · intro g e
    obtain ⟨A1, c1, hs⟩ := hf.st
    rw [hs.own_] at e
    rcases hs.row.2 with ⟨h3, _⟩ | ⟨g', cap, cur, h3, _, hh, _⟩
    · rw [h3] at e; simp [Value.ownBlock] at e
    · rw [h3] at e
      simp [Value.ownBlock] at e
      subst e
      exact own_blk_ne h.row (g := g') (t := 61) (cs := cur) hh (by decide)
theorem Own23.nil (hb : Below w.heap.size w wr) : Own23 w wr none 0 0 [] [] := ⟨World.ownsRow_nil _ _ _ _, RecV.nil _ _, rfl, hb⟩
theorem Own23.blocks (h : Own23 w wr A c n rs vs) (hl : n ≤ 100000) (hb : ∀ r ∈ rs, r.length ≤ 100000) {m : Nat} (hm : Hid (needs rs = m)) : Calls Try.prog 14 #[.slice A n c] wr fun e w' => e = .returned (.int .i64 m) ∧ wr = w' := by
  rw [← hm.out]
  exact blocks_ref A c n rs vs w.heap.size wr (Lib.hid h.len) h.row h.recs hl hb
theorem Own23.bytes (h : Own23 w wr A c n rs vs) (hl : n ≤ 100000) (hb : ∀ r ∈ rs, byteOk r ∧ r.length ≤ 100000) (hn : needs rs ≤ 20000) {m : Nat} (hm : Hid (needs rs * 32 = m)) : Calls Try.prog 13 #[.slice A n c] wr (NewRow 5 1 m (u8s (Go.Proofs.Ytabnlnhnefjebaa.bytes rs)) wr) := by
  rw [← hm.out]
  exact rbytes_any A c n rs vs w.heap.size wr (Lib.hid h.len) h.row h.recs hl hb hn
end
theorem open_row {w wr : World} {A : Option Addr} {m c base : Nat} {l : List Int} (h : wr.ownsRow base 5 1 (.slice A m c) m (u8s l)) (hb : byteOk l) : Calls Try.prog 12 #[.slice A m c] wr (OpenPost l wr) := by
  have hl : l.length = m := by have := h.1; rw [u8s_len, Nat.mul_one] at this; exact this
  have hc := own_cap h
  exact open_at (Lib.hid hl.symm) (rdB_of_own (Lib.hid hl) h) hc.1 hc.2 hb
theorem bytes_okB (rs : List (List Int)) (h : ∀ r ∈ rs, byteOk r) : byteOk (bytes rs) := byteOk_flat (fun l hl => (brecs_each rs h 0 l hl).2)
/-- what is behind an opening -/
theorem openP {w wr w' : World} {e : Ending} {l : List Int} {rs : List (List Int)} (ho : opn l = rs) (hb : Below w.heap.size w wr) (h : OpenPost l wr e w') : ∃ p own, e = .returned (.pointer (some ⟨p, 0, none⟩)) ∧ FSt w w' p own (brecs 0 rs) (needs rs) ∧ Below wr.heap.size wr w' := by
  obtain ⟨p, own, h1, h2, h3, h4, h5, _, _⟩ := h
  rw [ho] at h2
  have hs := hb.size
  exact ⟨p, own, h1, ⟨h2, hb.trans (h3.mono hs), by omega, fun g e => by have := h5 g e; omega⟩, h3⟩
end Go.Proofs.Ytabnlnhnefjebaa
