/-
  Chapter 40: the table of transitions; contracts of target and may.
-/
import Derived.Test.YtolkdidcmingkaaDoorRun1b
import Derived.Laws.Rows
namespace Go.Proofs.YtolkdidcmingkaaDoor
open Go.RowKit
set_option linter.unusedVariables false
set_option linter.unusedSimpArgs false

def TR : List T3 := [(1, 1, 2), (1, 2, 2), (2, 2, 3), (2, 3, 3), (3, 3, 4), (4, 4, 5), (5, 4, 6), (5, 5, 6), (6, 2, 1), (6, 3, 1)]
/-- the table in memory -/
def tabV : Array Value := #[.int .i64 1, .int .i64 1, .int .i64 2, .int .i64 1, .int .i64 2, .int .i64 2, .int .i64 2, .int .i64 2, .int .i64 3, .int .i64 2, .int .i64 3, .int .i64 3, .int .i64 3, .int .i64 3, .int .i64 4,
  .int .i64 4, .int .i64 4, .int .i64 5, .int .i64 5, .int .i64 4, .int .i64 6, .int .i64 5, .int .i64 5, .int .i64 6, .int .i64 6, .int .i64 2, .int .i64 1, .int .i64 6, .int .i64 3, .int .i64 1]
def Tab (w : World) : Prop := ∃ t fr, w.heap[0]? = some (.cells tabV t fr)
theorem Tab.lt {w : World} (h : Tab w) : 0 < w.heap.size := by
  obtain ⟨t, fr, h⟩ := h
  rcases Nat.lt_or_ge 0 w.heap.size with hlt | hge
  · exact hlt
  · rw [Array.getElem?_eq_none hge] at h; cases h
theorem Tab.below {w w' : World} {B : Nat} (h : Tab w) (hb : Below B w w') (hB : 0 < B) : Tab w' := by
  obtain ⟨t, fr, h⟩ := h
  exact ⟨t, fr, (hb.block _ hB).trans h⟩
theorem Tab.calc_ {w w' : World} (h : Tab w) (hb : Below w.heap.size w w') : Tab w' := h.below hb h.lt

def tgL : List T3 → Int → Int → Int × Bool
  | [], _, _ => (0, false)
  | x :: r, s, k => if x.1 = k ∧ x.2.1 = s then (x.2.2, true) else tgL r s k
def mayB (s k : Int) : Bool := (k == 1 && (s == 1 || s == 2)) || (k == 2 && (s == 2 || s == 3)) || (k == 6 && (s == 2 || s == 3)) || (k == 3 && s == 3) || (k == 4 && s == 4) || (k == 5 && (s == 4 || s == 5))
def nxt (k : Int) : Int := if k = 6 then 1 else k + 1
def tgV (s k : Int) : Int := if mayB s k then nxt k else 0
theorem tg_eq (s k : Int) : tgL TR s k = (tgV s k, mayB s k) := by
  by_cases k1 : k = 1
  · subst k1; by_cases s1 : s = 1
    · subst s1; decide
    · by_cases s2 : s = 2
      · subst s2; decide
      · simp [tgL, TR, tgV, mayB, s1, s2, Ne.symm s1, Ne.symm s2]
  by_cases k2 : k = 2
  · subst k2; by_cases s2 : s = 2
    · subst s2; decide
    · by_cases s3 : s = 3
      · subst s3; decide
      · simp [tgL, TR, tgV, mayB, s2, s3, Ne.symm s2, Ne.symm s3]
  by_cases k3 : k = 3
  · subst k3; by_cases s3 : s = 3
    · subst s3; decide
    · simp [tgL, TR, tgV, mayB, s3, Ne.symm s3]
  by_cases k4 : k = 4
  · subst k4; by_cases s4 : s = 4
    · subst s4; decide
    · simp [tgL, TR, tgV, mayB, s4, Ne.symm s4]
  by_cases k5 : k = 5
  · subst k5; by_cases s4 : s = 4
    · subst s4; decide
    · by_cases s5 : s = 5
      · subst s5; decide
      · simp [tgL, TR, tgV, mayB, s4, s5, Ne.symm s4, Ne.symm s5]
  by_cases k6 : k = 6
  · subst k6; by_cases s2 : s = 2
    · subst s2; decide
    · by_cases s3 : s = 3
      · subst s3; decide
      · simp [tgL, TR, tgV, mayB, s2, s3, Ne.symm s2, Ne.symm s3]
  · simp [tgL, TR, tgV, mayB, k1, k2, k3, k4, k5, k6, Ne.symm k1, Ne.symm k2, Ne.symm k3, Ne.symm k4, Ne.symm k5, Ne.symm k6]

def RetIB (v : Int) (b : Bool) (w : World) (e : Ending) (w' : World) : Prop := e = .returned (.tuple #[.int .i64 v, .bool b]) ∧ Below w.heap.size w w'
theorem retIB_of {v v' : Int} {b b' : Bool} {w w' : World} (hv : v = v') (hb : b = b') (h : Below w.heap.size w w') : RetIB v' b' w (.returned (.tuple #[.int .i64 v, .bool b])) w' := by subst hv hb; exact ⟨rfl, h⟩
theorem tr_drop (j : Nat) (h : j < 10) (s k : Int) : tgL (TR.drop j) s k = if tA TR j = k ∧ tB TR j = s then (tC TR j, true) else tgL (TR.drop (j + 1)) s k := by
  have : j = 0 ∨ j = 1 ∨ j = 2 ∨ j = 3 ∨ j = 4 ∨ j = 5 ∨ j = 6 ∨ j = 7 ∨ j = 8 ∨ j = 9 := by omega
  rcases this with rfl | rfl | rfl | rfl | rfl | rfl | rfl | rfl | rfl | rfl <;> rfl
theorem tr_ix0 (w : World) : (Instr.index 62 (.agg tabV) (.int .i64 0)).run Tryd.prog w = .ok (.agg #[.int .i64 1, .int .i64 1, .int .i64 2]) w := by kernel_rfl
theorem tr_ix1 (w : World) : (Instr.index 62 (.agg tabV) (.int .i64 1)).run Tryd.prog w = .ok (.agg #[.int .i64 1, .int .i64 2, .int .i64 2]) w := by kernel_rfl
theorem tr_ix2 (w : World) : (Instr.index 62 (.agg tabV) (.int .i64 2)).run Tryd.prog w = .ok (.agg #[.int .i64 2, .int .i64 2, .int .i64 3]) w := by kernel_rfl
theorem tr_ix3 (w : World) : (Instr.index 62 (.agg tabV) (.int .i64 3)).run Tryd.prog w = .ok (.agg #[.int .i64 2, .int .i64 3, .int .i64 3]) w := by kernel_rfl
theorem tr_ix4 (w : World) : (Instr.index 62 (.agg tabV) (.int .i64 4)).run Tryd.prog w = .ok (.agg #[.int .i64 3, .int .i64 3, .int .i64 4]) w := by kernel_rfl
theorem tr_ix5 (w : World) : (Instr.index 62 (.agg tabV) (.int .i64 5)).run Tryd.prog w = .ok (.agg #[.int .i64 4, .int .i64 4, .int .i64 5]) w := by kernel_rfl
theorem tr_ix6 (w : World) : (Instr.index 62 (.agg tabV) (.int .i64 6)).run Tryd.prog w = .ok (.agg #[.int .i64 5, .int .i64 4, .int .i64 6]) w := by kernel_rfl
theorem tr_ix7 (w : World) : (Instr.index 62 (.agg tabV) (.int .i64 7)).run Tryd.prog w = .ok (.agg #[.int .i64 5, .int .i64 5, .int .i64 6]) w := by kernel_rfl
theorem tr_ix8 (w : World) : (Instr.index 62 (.agg tabV) (.int .i64 8)).run Tryd.prog w = .ok (.agg #[.int .i64 6, .int .i64 2, .int .i64 1]) w := by kernel_rfl
theorem tr_ix9 (w : World) : (Instr.index 62 (.agg tabV) (.int .i64 9)).run Tryd.prog w = .ok (.agg #[.int .i64 6, .int .i64 3, .int .i64 1]) w := by kernel_rfl
theorem tr_index (j : Nat) (h : j < 10) (w : World) : (Instr.index 62 (.agg tabV) (.int .i64 (j : Int))).run Tryd.prog w = .ok (.agg #[.int .i64 (tA TR j), .int .i64 (tB TR j), .int .i64 (tC TR j)]) w := by
  have : j = 0 ∨ j = 1 ∨ j = 2 ∨ j = 3 ∨ j = 4 ∨ j = 5 ∨ j = 6 ∨ j = 7 ∨ j = 8 ∨ j = 9 := by omega
  rcases this with rfl | rfl | rfl | rfl | rfl | rfl | rfl | rfl | rfl | rfl
  · exact tr_ix0 w
  · exact tr_ix1 w
  · exact tr_ix2 w
  · exact tr_ix3 w
  · exact tr_ix4 w
  · exact tr_ix5 w
  · exact tr_ix6 w
  · exact tr_ix7 w
  · exact tr_ix8 w
  · exact tr_ix9 w

set_option maxHeartbeats 1600000 in
theorem target_any (s k : Int) (w : World) (hT : Tab w) : Calls Tryd.prog 24 #[.int .i64 s, .int .i64 k] w (RetIB (tgV s k) (mayB s k) w) := by
  have HT := Lib.hid hT
  obtain ⟨tt, fr, hg⟩ := hT
  have HE : Hid (tgL TR s k = (tgV s k, mayB s k)) := Lib.hid (tg_eq s k)
  generalize tgV s k = V at *
  generalize mayB s k = Bm at *
  go_enter Tryd.func24, Tryd.ntmps24
  go_wp2_with (refine wpList_load_row rfl 62 _ rfl 0 rfl tt _ fr _ hg Tryd.underlying62 rfl (by kernel_rfl) ?_)
  generalize htv : tabV = TV at *
  have HTV := Lib.hid htv
  clear htv hg
  go_loopw [9] (fun i wr => ∃ j : Nat, j ≤ 10 ∧ i = .int .i64 j ∧ tgL (TR.drop j) s k = (V, Bm) ∧ Below w.heap.size w wr) (fun i _ => 10 - (intOf i).toNat)
  case atStart => exact ⟨0, by omega, rfl, HE.out, Below.refl _ _⟩
  case round =>
    obtain ⟨j, hj, rfl, hd, hbl⟩ := hrel
    have HD := Lib.hid hd
    have HBL := Lib.hid hbl
    clear hd hbl
    by_cases hlt : j < 10
    · have hix := tr_index j hlt
      rw [HTV.out] at hix
      have HN := Lib.hid (tr_drop j hlt s k)
      generalize tA TR j = a at *
      generalize tB TR j = b at *
      generalize tC TR j = d at *
      rcases (show (a == k) = true ∨ (a == k) = false by cases a == k <;> simp) with t1 | t1
      · rcases (show (b == s) = true ∨ (b == s) = false by cases b == s <;> simp) with t2 | t2
        · have HF : Hid ((d, true) = (V, Bm)) := Lib.hid (by rw [← HD.out, HN.out, if_pos ⟨by simpa using t1, by simpa using t2⟩])
          have f1 : d = V := congrArg Prod.fst HF.out
          have f2 : true = Bm := congrArg Prod.snd HF.out
          have HF1 := Lib.hid f1
          have HF2 := Lib.hid f2
          clear f1 f2
          go_wp2
          go_ret2
          exact retIB_of HF1.out HF2.out (HBL.out.alloc HBL.out.size _)
        · have HF : Hid (tgL (TR.drop (j + 1)) s k = (V, Bm)) := Lib.hid (by rw [← HD.out, HN.out, if_neg (fun h => by simp [h.2] at t2)])
          go_wp2
          go_roundw
          case rel => exact ⟨j + 1, by omega, by go_num, HF.out, HBL.out.alloc HBL.out.size _⟩
          case measure => simp [intOf]; omega
      · have HF : Hid (tgL (TR.drop (j + 1)) s k = (V, Bm)) := Lib.hid (by rw [← HD.out, HN.out, if_neg (fun h => by simp [h.1] at t1)])
        go_wp2
        go_roundw
        case rel => exact ⟨j + 1, by omega, by go_num, HF.out, HBL.out.alloc HBL.out.size _⟩
        case measure => simp [intOf]; omega
    · have hj10 : j = 10 := by omega
      subst hj10
      have HF : Hid (((0 : Int), false) = (V, Bm)) := Lib.hid HD.out
      have f1 : 0 = V := congrArg Prod.fst HF.out
      have f2 : false = Bm := congrArg Prod.snd HF.out
      have HF1 := Lib.hid f1
      have HF2 := Lib.hid f2
      clear f1 f2
      go_wp2
      go_ret2
      exact retIB_of HF1.out HF2.out HBL.out
end Go.Proofs.YtolkdidcmingkaaDoor
