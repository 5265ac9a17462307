/-
  The tape of package payrollgen: contracts of New, Mod, Next, Pick, Near.
-/
import Derived.Test.YtagkdkkpgcolkaaRows
import Derived.Test.YtagkdkkpgcolkaaKit
namespace Go.Proofs.Ytagkdkkpgcolkaa
open Go.RowKit
set_option linter.unusedVariables false

set_option maxHeartbeats 400000 in
theorem mod_any (v n : Int) (w : World) (hn : 0 < n) (hn2 : n ≤ 4000000000000000000) :
    Calls Try.prog 28 #[.int .i64 v, .int .i64 n] w fun e w' => e = .returned (.int .i64 (v % n)) ∧ w = w' := by
  have hb := tm_bd v n hn
  have h1 := Lib.hid (mod_neg v n hn)
  have h2 := Lib.hid (mod_pos v n hn)
  go_enter Try.func28, Try.ntmps28
  go_wp2
  all_goals go_ret
  · exact ⟨ret_int (h1.out (by assumption)), rfl⟩
  · exact ⟨ret_int (h2.out (by assumption)), rfl⟩

/-- the deck at block g, from which at most N numbers have been drawn -/
def Deck (w : World) (g : Nat) (N : Int) : Prop :=
  ∃ (A : Option Addr) (c : Nat) (l : List Int) (k : Nat), Blk w g 66 #[.slice A l.length c, .int .i64 (k : Int)] ∧ RdI w g A l ∧ l.length ≤ 9223372036854775807 ∧ (k : Int) ≤ N
theorem Deck.only {w w' : World} {g g' : Nat} {N : Int} (h : Deck w g N) (ho : Only g' w w') (hg : g < g') : Deck w' g N := by
  obtain ⟨A, c, l, k, hb, hr, hl, hk⟩ := h
  exact ⟨A, c, l, k, hb.grown ho (by intro e; injection e; omega), hr.only ho (Nat.le_of_lt hb.lt) (Nat.le_of_lt hg), hl, hk⟩
theorem Deck.below {w w' : World} {g B : Nat} {N : Int} (h : Deck w g N) (ho : Below B w w') (hg : g < B) : Deck w' g N := by
  obtain ⟨A, c, l, k, hb, hr, hl, hk⟩ := h
  exact ⟨A, c, l, k, hb.below ho hg, hr.below (ho.mono (Nat.le_of_lt hg)), hl, hk⟩
theorem Deck.more {w : World} {g : Nat} {N N' : Int} (h : Deck w g N) (hN : N ≤ N') : Deck w g N' := by
  obtain ⟨A, c, l, k, hb, hr, hl, hk⟩ := h
  exact ⟨A, c, l, k, hb, hr, hl, Int.le_trans hk hN⟩
theorem Deck.lt {w : World} {g : Nat} {N : Int} (h : Deck w g N) : g < w.heap.size := by
  obtain ⟨A, c, l, k, hb, hr, hl, hk⟩ := h
  exact hb.lt
theorem Deck.alloc {w : World} {g : Nat} {N : Int} (h : Deck w g N) (o : Obj) : Deck (w.alloc o) g N := h.below ((Below.refl w.heap.size w).alloc (Nat.le_refl _) o) h.lt
theorem Deck.drewN {w : World} {g : Nat} {N : Int} (h : Deck w g N) (n : Nat) : Deck (w.drewN n) g N := h

/-- it returns a number of which P holds; the deck has moved on, and nothing else has turned -/
def DeckInt (P : Int → Prop) (g : Nat) (N : Int) (w : World) (e : Ending) (w' : World) : Prop :=
  ∃ v, e = .returned (.int .i64 v) ∧ P v ∧ Only g w w' ∧ Deck w' g N

theorem mod_any' (v n : Int) (w : World) (hn : 0 < n) (hn2 : n ≤ 4000000000000000000) : Calls Try.prog 28 #[.int .i64 v, .int .i64 n] w fun e w' => e = .returned (.int .i64 (v % n)) ∧ w' = w :=
  (mod_any v n w hn hn2).mono fun _ _ h => ⟨h.1, h.2.symm⟩
theorem next_fin {w : World} {g : Nat} {N : Int} {A : Option Addr} {c k : Nat} {l : List Int} (m m2 : Nat) (hb : Blk w g 66 #[.slice A l.length c, .int .i64 (k : Int)]) (hr : RdI w g A l) (hl : l.length ≤ 9223372036854775807) (hk : (k : Int) ≤ N) :
    Only g w (((w.drewN m).setCell ⟨g, 1, none⟩ (.int .i64 ((k : Int) + 1))).drewN m2) ∧ Deck (((w.drewN m).setCell ⟨g, 1, none⟩ (.int .i64 ((k : Int) + 1))).drewN m2) g (N + 1) := by
  have ho : Only g w ((w.drewN m).setCell ⟨g, 1, none⟩ (.int .i64 ((k : Int) + 1))) := ((Only.refl g w).drewN m).setCell (.inl rfl) _
  refine ⟨ho.drewN m2, A, c, l, k + 1, ?_, hr.only (ho.drewN m2) (Nat.le_of_lt hb.lt) (Nat.le_refl _), hl, by omega⟩
  have := ((hb.drewN m).set_ 1 (.int .i64 ((k : Int) + 1))).drewN m2
  simpa using this

set_option maxHeartbeats 800000 in
theorem next_any (g : Nat) (N n : Int) (w : World) (hD : Deck w g N) (hN : N ≤ 1000000) (hn : 0 < n) (hn2 : n ≤ 4000000000000000000) :
    Calls Try.prog 12 #[.pointer (some ⟨g, 0, none⟩), .int .i64 n] w (DeckInt (fun v => 0 ≤ v ∧ v < n) g (N + 1) w) := by
  obtain ⟨A, c, l, k, hb, hr, hl, hk⟩ := hD
  have hc0 : w.cell? ⟨g, 0, none⟩ = some (.slice A l.length c) := hb.cell 0
  have hc1 : w.cell? ⟨g, 1, none⟩ = some (.int .i64 (k : Int)) := hb.cell 1
  have hf := hb.frozen 1
  have HB := Lib.hid hb
  have HR := Lib.hid hr
  clear hb hr
  have d1 : decide (n < 1) = false := by simp; omega
  by_cases hlt : k < l.length
  · obtain ⟨b, off, rfl, hbg, hcell⟩ := HR.out.at_ hlt
    generalize at1 l k = x at hcell
    have hx := mod_bd x n hn
    have d2 : decide (l.length ≤ k) = false := by simp; omega
    have d2' : decide ((l.length : Int) ≤ (k : Int)) = false := by simp; omega
    have hbne : ¬ g = b := by omega
    go_enter Try.func12, Try.ntmps12
    go_wp2
    go_quiet (fail)
    go_wp2
    have hw1 := IntWalk.i64_in (k : Int) (by omega)
    go_quiet ((go_at_call 28; exact Calls.quiet_of_same (mod_any' _ _ _ hn hn2)))
    go_wp2
    all_goals
      go_ret
      exact ⟨_, rfl, hx, next_fin _ _ HB.out HR.out hl hk⟩
  · have d2 : decide (l.length ≤ k) = true := by simp; omega
    have d2' : decide ((l.length : Int) ≤ (k : Int)) = true := by simp; omega
    go_enter Try.func12, Try.ntmps12
    go_wp2
    go_quiet (fail)
    go_wp2
    go_ret
    exact ⟨0, rfl, by omega, (Only.refl g w).drewN _, ⟨A, c, l, k, HB.out, HR.out, hl, by omega⟩⟩

set_option maxHeartbeats 400000 in
theorem new_any (A : Option Addr) (c : Nat) (l : List Int) (w : World) (hr : RdI w w.heap.size A l) (hl : l.length ≤ 9223372036854775807) :
    Calls Try.prog 8 #[.slice A l.length c] w fun e w' => e = .returned (.pointer (some ⟨w.heap.size, 0, none⟩)) ∧ Below w.heap.size w w' ∧ Deck w' w.heap.size 0 ∧ w'.heap.size = w.heap.size + 1 := by
  have HR := Lib.hid hr
  clear hr
  go_enter Try.func8, Try.ntmps8
  go_wp2
  go_ret
  have hb : Below w.heap.size w (w.alloc (.cells #[.slice A l.length c, .int .i64 0] 66)) := (Below.refl _ _).alloc (Nat.le_refl _) _
  exact ⟨rfl, hb, ⟨A, c, l, 0, Blk.new _ _ _, HR.out.below hb, hl, by omega⟩, by simp⟩

set_option maxHeartbeats 400000 in
theorem pick_any (g : Nat) (N : Int) (A : Option Addr) (c B : Nat) (l : List Int) (w : World) (hD : Deck w g N) (hN : N ≤ 1000000) (hr : RdI w B A l) (hB : B ≤ w.heap.size) (hg : ∀ b off, A = some ⟨b, off, none⟩ → b ≠ g) (h0 : 0 < l.length) (hl : l.length ≤ 1000000) :
    Calls Try.prog 23 #[.pointer (some ⟨g, 0, none⟩), .slice A l.length c] w (DeckInt (fun v => v ∈ l) g (N + 1) w) := by
  obtain ⟨b, off, rfl, hb, hc⟩ := hr.all h0
  have hne := hg b off rfl
  go_enter Try.func23, Try.ntmps23
  go_wp2_with fail
  refine (next_any g N _ _ hD hN (by omega) (by omega)).mono ?_
  rintro e w' ⟨v, rfl, hv, ho, hD'⟩
  have hc' : w'.cell? ⟨b, off + v.toNat, none⟩ = some (.int .i64 (at1 l v.toNat)) := ho.cell (hc v.toNat (by omega)) (by intro e; injection e; exact hne (by assumption))
  have HO := Lib.hid ho
  have HD' := Lib.hid hD'
  clear ho hD' hc hD hr hg
  go_wp2
  go_ret
  exact ⟨_, rfl, at1_mem l _ (by omega), HO.out, HD'.out⟩

theorem pick_new (g : Nat) (N : Int) (l : List Int) (w : World) (t : TypeId) (c : Nat) (hD : Deck w g N) (hN : N ≤ 1000000) (h0 : 0 < l.length) (hl : l.length ≤ 1000000) :
    Calls Try.prog 23 #[.pointer (some ⟨g, 0, none⟩), .slice (some ⟨w.heap.size, 0, none⟩) l.length c] (w.alloc (.cells (l.map (Value.int .i64)).toArray t)) (DeckInt (fun v => v ∈ l) g (N + 1) w) := by
  refine (pick_any g N _ c (w.heap.size + 1) l _ (hD.alloc _) hN (rdI_new w l t) (by simp) (fun b off e => ?_) h0 hl).mono ?_
  · have := hD.lt
    injection e with e; injection e with e; omega
  · rintro e w' ⟨v, rfl, hv, ho, hD'⟩
    exact ⟨v, rfl, hv, ((Only.refl g w).alloc _).trans ho, hD'⟩


end Go.Proofs.Ytagkdkkpgcolkaa

