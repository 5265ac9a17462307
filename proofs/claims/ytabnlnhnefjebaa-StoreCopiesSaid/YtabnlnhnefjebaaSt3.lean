/-
  Chapter 41: a store in memory; New, Sync, Blocks, ended, Len, Synced. The memory is that of the given program; no conditions.
-/
import Derived.Test.YtabnlnhnefjebaaSt2
import Derived.Handy
namespace Go.Proofs.Ytabnlnhnefjebaa
open Go.RowKit
set_option linter.unusedVariables false
set_option linter.unusedSimpArgs false
/-- blocks of 32 bytes -/
def blocksOk (B : List (List Int)) : Prop := ∀ x ∈ B, x.length = 32 ∧ byteOk x
/-- block p is a store with the blocks B, of which 'sy' are synchronized; 'own' is the block of its row -/
structure StV (w : World) (p : Nat) (own : Option Nat) (B : List (List Int)) (sy : Nat) (A : Option Addr) (c : Nat) : Prop where
  own_ : own = (Value.slice A B.length c).ownBlock
  box : Blk w p 59 #[.slice A B.length c, .int .i64 sy]
  row : w.ownsRow 0 61 32 (.slice A B.length c) B.length (u8s B.flatten)
  ok : blocksOk B
  len : B.length ≤ 16384
  syn : sy ≤ B.length
def St (w : World) (p : Nat) (own : Option Nat) (B : List (List Int)) (sy : Nat) : Prop := ∃ A c, StV w p own B sy A c
theorem ne5961 : 61 ≠ 59 := by decide
section
variable {w w' : World} {p : Nat} {own : Option Nat} {B : List (List Int)} {sy : Nat} {A : Option Addr} {c : Nat} {S : Nat → Prop}
theorem StV.apart (h : StV w p own B sy A c) : own ≠ some p := by
  rw [h.own_]; exact own_blk_ne h.row h.box ne5961
theorem StV.own_lt (h : StV w p own B sy A c) : ∀ g, own = some g → g < w.heap.size := fun g e => (h.row.lt g (by rw [← h.own_]; exact e)).2
theorem StV.keep (h : StV w p own B sy A c) (k : Chg S w w') (hp : ¬ S p) (ho : ∀ g, own = some g → ¬ S g) : StV w' p own B sy A c :=
  ⟨h.own_, h.box.chg k hp, own_chg h.row k (fun g e => ho g (by rw [h.own_]; exact e)), h.ok, h.len, h.syn⟩
theorem St.keep (h : St w p own B sy) (k : Chg S w w') (hp : ¬ S p) (ho : ∀ g, own = some g → ¬ S g) : St w' p own B sy := by
  obtain ⟨A, c, h⟩ := h
  exact ⟨A, c, h.keep k hp ho⟩
theorem St.below (h : St w p own B sy) (k : Below w.heap.size w w') : St w' p own B sy := h.keep (Chg.of_below' (S := fun _ => False) k) (fun h => h) (fun _ _ h => h)
theorem StV.below (h : StV w p own B sy A c) (k : Below w.heap.size w w') : StV w' p own B sy A c := h.keep (Chg.of_below' (S := fun _ => False) k) (fun h => h) (fun _ _ h => h)
theorem flat_at (B : List (List Int)) (hB : blocksOk B) (k : Nat) (hk : k < B.length) : ∀ j, j < 32 → B.flatten[k * 32 + j]? = (B[k])[j]? := by
  induction B generalizing k with
  | nil => simp at hk
  | cons x B ih =>
    intro j hj
    have hx := (hB x (by simp)).1
    cases k with
    | zero => rw [List.flatten_cons, List.getElem?_append_left (by omega)]; simp
    | succ k =>
      rw [List.flatten_cons, List.getElem?_append_right (by omega), show (k + 1) * 32 + j - x.length = k * 32 + j by omega, ih (fun y hy => hB y (by simp [hy])) k (by simpa using hk) j hj]
      simp
theorem StV.addr (h : StV w p own B sy A c) (hB : 0 < B.length) : ∃ g, A = some ⟨g, 0, none⟩ ∧ g < w.heap.size ∧ own = some g := by
  obtain ⟨g, cap, hv, _, hlt⟩ := h.row.form hB
  injection hv with hA _ _
  subst hA
  exact ⟨g, rfl, hlt, h.own_⟩
theorem StV.range {k : Nat} (h : StV w p own B sy A c) (hk : k < B.length) {g : Nat} (hA : A = some ⟨g, 0, none⟩) : w.rangeAt g (k * 32) (u8s B[k]) := by
  subst hA
  intro j v hv
  have hx := (h.ok B[k] (List.getElem_mem hk)).1
  have hj : j < 32 := by
    have := (List.getElem?_eq_some_iff.1 hv).1
    rw [u8s_len, hx] at this
    exact this
  have hc := h.row.cells (g := g) rfl (k * 32 + j) v (by
    rw [← hv]
    unfold u8s
    rw [List.getElem?_map, List.getElem?_map, flat_at B h.ok k hk j hj])
  rw [Go.WideShapes.add_plain] at hc
  simpa using hc
theorem StV.cap (h : StV w p own B sy A c) : B.length ≤ c ∧ c ≤ 9223372036854775807 := own_cap h.row
theorem St.len (h : St w p own B sy) : B.length ≤ 16384 ∧ sy ≤ B.length := by
  obtain ⟨A, c, h⟩ := h
  exact ⟨h.len, h.syn⟩
theorem range_below {g o : Nat} {cs : List Value} (h : w.rangeAt g o cs) (hg : g < w.heap.size) (hb : Below w.heap.size w w') : w'.rangeAt g o cs := fun j v hv => (hb.cell (p := ⟨g, o + j, none⟩) hg).trans (h j v hv)
end
theorem take_snoc {α : Type} (l : List α) (k : Nat) (h : k < l.length) : l.take (k + 1) = l.take k ++ [l[k]] := List.take_succ_eq_append_getElem h
theorem ends_take (B : List (List Int)) (k : Nat) (h : k < B.length) : ends (B.take (k + 1)) = ends (B.take k) + (if blast B[k] = true then 1 else 0) := by rw [take_snoc B k h, ends_snoc]
theorem len32 {B : List (List Int)} (h : blocksOk B) {k : Nat} (hk : k < B.length) : Hid (B[k].length = 32) := Lib.hid (h _ (List.getElem_mem hk)).1
theorem info_32l {L : List Int} (h : Hid (L.length = 32)) : (Try.prog.info? 61).map (·.size) = some (u8s L).length := by
  rw [info61, u8s_len, h.out]
theorem bel_round {w wr w1 w2 w3 : World} {g7 : Nat} {o : Obj} (hb : Hid (Below w.heap.size w wr)) (hg : Hid (g7 = wr.heap.size)) (h1 : Hid (w1 = wr.alloc o)) (h2 : Hid (Only g7 w1 w2)) (h3 : Hid (Below w2.heap.size w2 w3)) : Hid (Below w.heap.size w w3) := by
  refine Lib.hid ?_
  have hs := (hb.out).size
  have b1 : Below w.heap.size w w1 := by rw [h1.out]; exact (hb.out).alloc hs _
  have b2 : Below w.heap.size w w2 := b1.trans ((h2.out).below b1.size (by rw [hg.out]; exact hs))
  exact b2.trans ((h3.out).mono b2.size)
set_option maxHeartbeats 800000 in
theorem ended_any (p n : Nat) (own : Option Nat) (B : List (List Int)) (sy : Nat) (w : World) (h : St w p own B sy) (hn : n ≤ B.length) :
    Calls Try.prog 40 #[.pointer (some ⟨p, 0, none⟩), .int .i64 n] w (RetI (ends (B.take n)) w) := by
  obtain ⟨A, c, h⟩ := h
  have HS := Lib.hid h
  have x0 := h.box.cell 0
  have hc := h.cap
  have hl := h.len
  obtain ⟨N, HN⟩ : ∃ N, Hid (N = B.length) := ⟨_, Lib.hid rfl⟩
  rw [← HN.out] at x0 hc hl hn
  simp at x0
  have hc1 := hc.1
  have hc2 := hc.2
  clear h hc
  go_enter Try.func40, Try.ntmps40
  go_wp2

  go_loopw [5, 15] (fun v i wr => ∃ k : Nat, k ≤ n ∧ i = .int .i64 k ∧ v = .int .i64 (ends (B.take k)) ∧ Below w.heap.size w wr) (fun _ i _ => n - (intOf i).toNat)
  case atStart => exact ⟨0, Nat.zero_le _, rfl, rfl, Below.refl _ _⟩
  case round =>
    obtain ⟨k, hk, rfl, rfl, hb⟩ := hrel
    have HB := Lib.hid hb
    clear hb x0
    have he : ends (B.take k) ≤ 16384 := by have := ends_le (B.take k); simp at this; omega
    by_cases hlt : k < n
    · have hkB : k < B.length := by rw [← HN.out]; omega
      obtain ⟨g, rfl, hg, _⟩ := (HS.out).addr (by omega)
      have HR : Hid (wr.rangeAt g (k * 32) (u8s B[k])) := Lib.hid (range_below ((HS.out).range hkB rfl) hg (HB.out))
      have HX := len32 (HS.out).ok hkB
      have HBX : Hid (byteOk B[k]) := Lib.hid ((HS.out).ok _ (List.getElem_mem hkB)).2
      obtain ⟨la, Hla⟩ : ∃ la, Hid (la = blast B[k]) := ⟨_, Lib.hid rfl⟩
      have HE : Hid (ends (B.take (k + 1)) = ends (B.take k) + (if la = true then 1 else 0)) := Lib.hid (by rw [Hla.out]; exact ends_take B k hkB)
      obtain ⟨x, Hx⟩ : ∃ x, Hid (x = B[k]) := ⟨_, Lib.hid rfl⟩
      rw [← Hx.out] at HR HX HBX Hla
      generalize ends (B.take k) = q at *
      cases la
      all_goals
        go_wp2_with (first
          | (refine wpList_load_mid rfl 61 (.tmp 17) rfl g (k * 32) rfl (u8s x) _ HR.out und61 rfl (info_32l HX) ?_)
          | (refine wpList_alloc_arr rfl 61 rfl _ zero61 ?_; intro g7 w1 Hg7 Hw1)
          | (refine wpList_store_blk rfl 61 (.tmp 7) (.tmp 18) rfl g7 _ _ 61 (blk_of Hg7 Hw1) rfl rfl (info_32 HX) (size_32 HX) (u8s_all _) ?_; intro w2 Hb2 Ho2)
          | (refine wpList_load_blk rfl 61 (.tmp 7) rfl g7 _ 61 Hb2.out rfl _ und61 rfl (info_32 HX) ?_)
          | (go_at_call 39; refine (last_at HX HBX Hla _).mono ?_; rintro e w3 ⟨rfl, hb3⟩; have Hb3 := Lib.hid hb3; clear hb3))
        have HB3 := bel_round HB Hg7 Hw1 Ho2 Hb3
        go_roundw
        case rel => exact ⟨k + 1, by omega, by go_num, by rw [HE.out]; simp, HB3.out⟩
        case measure => simp [intOf]; omega
    · obtain rfl : k = n := by omega
      go_wp2
      go_ret
      exact ⟨rfl, HB.out⟩
theorem new_any (w : World) : Calls Try.prog 18 #[] w (fun e w' => e = .returned (.pointer (some ⟨w.heap.size, 0, none⟩)) ∧ w' = w.alloc (.cells #[.slice none 0 0, .int .i64 0] 59)) := by
  go_enter Try.func18, Try.ntmps18
  go_wp2
  go_ret
  exact ⟨rfl, rfl⟩
theorem st_new (w : World) (g : Nat) (hg : g = w.heap.size) : St (w.alloc (.cells #[.slice none 0 0, .int .i64 0] 59)) g none [] 0 := by
  subst hg
  exact ⟨none, 0, rfl, Blk.new w _ _, World.ownsRow_nil _ _ _ _, fun x hx => by simp at hx, by simp, Nat.le_refl _⟩
theorem blocks_any (p : Nat) (own : Option Nat) (B : List (List Int)) (sy : Nat) (w : World) (h : St w p own B sy) :
    Calls Try.prog 15 #[.pointer (some ⟨p, 0, none⟩)] w (RetI B.length w) := by
  obtain ⟨A, c, h⟩ := h
  have x0 := h.box.cell 0
  simp at x0
  clear h
  go_enter Try.func15, Try.ntmps15
  go_wp2
  go_ret
  exact ⟨rfl, Below.refl _ _⟩
theorem len_any (p : Nat) (own : Option Nat) (B : List (List Int)) (sy : Nat) (w : World) (h : St w p own B sy) :
    Calls Try.prog 16 #[.pointer (some ⟨p, 0, none⟩)] w (RetI (ends B) w) := by
  have HS := Lib.hid h
  have HE : Hid (ends (B.take B.length) = ends B) := Lib.hid (by rw [List.take_length])
  obtain ⟨A, c, h⟩ := h
  have x0 := h.box.cell 0
  simp at x0
  clear h
  go_enter Try.func16, Try.ntmps16
  go_wp2_with (go_at_call 40; refine (ended_any p B.length own B sy _ HS.out (Nat.le_refl _)).mono ?_; rintro e w1 ⟨rfl, hb1⟩)
  go_ret
  exact ⟨rfl, hb1⟩
theorem synced_any (p : Nat) (own : Option Nat) (B : List (List Int)) (sy : Nat) (w : World) (h : St w p own B sy) :
    Calls Try.prog 28 #[.pointer (some ⟨p, 0, none⟩)] w (RetI (ends (B.take sy)) w) := by
  have HS := Lib.hid h
  obtain ⟨A, c, h⟩ := h
  have x0 := h.box.cell 1
  have hs := h.syn
  simp at x0
  clear h
  go_enter Try.func28, Try.ntmps28
  go_wp2_with (go_at_call 40; refine (ended_any p sy own B sy _ HS.out hs).mono ?_; rintro e w1 ⟨rfl, hb1⟩)
  go_ret
  exact ⟨rfl, hb1⟩
def SyncPost (p : Nat) (own : Option Nat) (B : List (List Int)) (w : World) (e : Ending) (w' : World) : Prop := e = .returned (.tuple #[]) ∧ St w' p own B B.length ∧ Only p w w'
theorem sync_any (p : Nat) (own : Option Nat) (B : List (List Int)) (sy : Nat) (w : World) (h : St w p own B sy) :
    Calls Try.prog 34 #[.pointer (some ⟨p, 0, none⟩)] w (SyncPost p own B w) := by
  obtain ⟨A, c, h⟩ := h
  have HS := Lib.hid h
  have x0 := h.box.cell 0
  have x1 := h.box.cell 1
  have hf := h.box.frozen 1
  simp at x0 x1
  clear h
  go_enter Try.func34, Try.ntmps34
  go_wp2
  go_end0
  refine ⟨rfl, ⟨A, c, ⟨(HS.out).own_, ?_, ?_, (HS.out).ok, (HS.out).len, Nat.le_refl _⟩⟩, (Only.refl p w).setCell (.inl rfl) _⟩
  · simpa using (HS.out).box.set_ 1 (.int .i64 B.length)
  · exact own_chg (HS.out).row (Chg.of_grown (S := fun k => k = p) ((Only.refl p w).setCell (p := ⟨p, 1, none⟩) (.inl rfl) _) (fun i _ e => by injection e with e; exact e.symm)) (fun g e h => own_blk_ne (HS.out).row (HS.out).box ne5961 (by rw [e, h]))
end Go.Proofs.Ytabnlnhnefjebaa
