/-
  Chapter 10: presences in memory; presence.Valid. The memory is that of the given program; no conditions.
-/
import Derived.Test.YtagkdkkpgcolkaaSh6
namespace Go.Proofs.Ytagkdkkpgcolkaa
open Go.RowKit
set_option linter.unusedVariables false
set_option linter.unusedSimpArgs false
/-- the presence i of a slice -/
structure PrAt (w : World) (g off i : Nat) (f t : Int) (bs : List (Int × Int)) (A : Option Addr) (m c : Nat) : Prop where
  c0 : w.cell? ⟨g, off + i * 3, none⟩ = some (.int .i64 f)
  c1 : w.cell? ⟨g, off + i * 3 + 1, none⟩ = some (.int .i64 t)
  c2 : w.cell? ⟨g, off + i * 3 + 2, none⟩ = some (.slice A m c)
  rd : RdP w w.heap.size A bs
  len : bs.length = m
  cap : m ≤ c ∧ c ≤ 9223372036854775807
/-- a slice that reads as presences -/
def RdPr (w : World) (A : Option Addr) (l : List Pr) : Prop := 0 < l.length → ∃ g off, A = some ⟨g, off, none⟩ ∧ g < w.heap.size ∧ ∀ i, i < l.length → ∃ B m c, PrAt w g off i (pF l i) (pT l i) (pB l i) B m c
theorem PrAt.below {w w' : World} {g off i : Nat} {f t : Int} {bs : List (Int × Int)} {A : Option Addr} {m c : Nat} (h : PrAt w g off i f t bs A m c) (hb : Below w.heap.size w w') : PrAt w' g off i f t bs A m c :=
  ⟨(hb.cell (p := ⟨g, off + i * 3, none⟩) (World.block_lt_of_cell? w _ h.c0)).trans h.c0, (hb.cell (p := ⟨g, off + i * 3 + 1, none⟩) (World.block_lt_of_cell? w _ h.c1)).trans h.c1, (hb.cell (p := ⟨g, off + i * 3 + 2, none⟩) (World.block_lt_of_cell? w _ h.c2)).trans h.c2, Rd.more (RdP.below h.rd hb) hb.size, h.len, h.cap⟩
theorem RdPr.below {w w' : World} {A : Option Addr} {l : List Pr} (h : RdPr w A l) (hb : Below w.heap.size w w') : RdPr w' A l := fun hp => by
  obtain ⟨g, off, e, hg, hc⟩ := h hp
  refine ⟨g, off, e, Nat.lt_of_lt_of_le hg hb.size, fun i hi => ?_⟩
  obtain ⟨B, m, c, h1⟩ := hc i hi
  exact ⟨B, m, c, h1.below hb⟩
theorem pr_cells {w W : World} {A : Option Addr} {l : List Pr} (h : Hid (RdPr w A l)) (hb : Below w.heap.size w W) {k : Nat} (hk : k < l.length) : ∃ g off B m c, A = some ⟨g, off, none⟩ ∧ PrAt W g off k (pF l k) (pT l k) (pB l k) B m c := by
  obtain ⟨g, off, e, _, hc⟩ := h.out (by omega)
  obtain ⟨B, m, c, h1⟩ := hc k hk
  exact ⟨g, off, B, m, c, e, h1.below hb⟩
def inB (a b f t : Int) : Bool := decide (f ≤ a ∧ a < b ∧ b ≤ t)
theorem within_any (a b f t : Int) (w : World) : Calls Try.prog 48 #[.agg #[.int .i64 a, .int .i64 b], .int .i64 f, .int .i64 t] w (RetB (inB a b f t) w) := by
  have HB0 : Hid (∀ ob, Below w.heap.size w (w.alloc ob)) := Lib.hid (fun ob => (Below.refl _ _).alloc (Nat.le_refl _) _)
  rcases bool_cases (f ≤ a) with t0 | t0
  rotate_left
  · have HN : Hid (inB a b f t = false) := Lib.hid (decide_eq_false (fun h => by simp at t0; omega))
    go_enter Try.func48, Try.ntmps48
    go_wp2
    go_ret
    exact ⟨ret_bool HN.out.symm, HB0.out _⟩
  rcases bool_cases (a < b) with t1 | t1
  rotate_left
  · have HN : Hid (inB a b f t = false) := Lib.hid (decide_eq_false (fun h => by simp at t1; omega))
    go_enter Try.func48, Try.ntmps48
    go_wp2
    go_ret
    exact ⟨ret_bool HN.out.symm, HB0.out _⟩
  rcases bool_cases (b ≤ t) with t2 | t2
  · have HN : Hid (inB a b f t = true) := Lib.hid (decide_eq_true (by simp at t0 t1 t2; exact ⟨t0, t1, t2⟩))
    go_enter Try.func48, Try.ntmps48
    go_wp2
    go_ret
    exact ⟨ret_bool HN.out.symm, HB0.out _⟩
  · have HN : Hid (inB a b f t = false) := Lib.hid (decide_eq_false (fun h => by simp at t2; omega))
    go_enter Try.func48, Try.ntmps48
    go_wp2
    go_ret
    exact ⟨ret_bool HN.out.symm, HB0.out _⟩
theorem within_at {a b f t : Int} {q : Bool} {w : World} (hq : Hid (q = inB a b f t)) : Calls Try.prog 48 #[.agg #[.int .i64 a, .int .i64 b], .int .i64 f, .int .i64 t] w (RetB q w) := by
  rw [hq.out]; exact within_any a b f t w
end Go.Proofs.Ytagkdkkpgcolkaa
