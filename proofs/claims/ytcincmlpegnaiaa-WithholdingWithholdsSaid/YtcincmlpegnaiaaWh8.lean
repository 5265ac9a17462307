/-
  Chapter 30: Year, plain; lists of numbers in memory of their own.
-/
import Derived.Test.YtcincmlpegnaiaaWh7
namespace Go.Proofs.Ytcincmlpegnaiaa
open Go.RowKit
set_option linter.unusedVariables false
set_option linter.unusedSimpArgs false


theorem own_rdI {w : World} {base : Nat} {e : TypeId} {A : Option Addr} {c : Nat} {l : List Int} (h : w.ownsRow base e 1 (.slice A l.length c) l.length (l.map (Value.int .i64))) : RdI w w.heap.size A l := by
  intro hn
  obtain ⟨g, cap, hv, _, hlt⟩ := h.form hn
  injection hv with hA _ _
  subst hA
  refine ⟨g, 0, rfl, hlt, fun i j hi hj => ?_⟩
  have hc := h.cells (g := g) rfl
  have hj0 : j = 0 := by omega
  subst hj0
  have := hc i (.int .i64 (at1 l i)) (by simp [at1, hi])
  simpa [Go.WideShapes.add_plain] using this
theorem ints_one (l : List Int) : ∀ u ∈ l.map (Value.int .i64), u.oneCell' = true := by
  intro u hu
  simp at hu
  obtain ⟨x, _, rfl⟩ := hu
  rfl
def OwnI (w : World) (base : Nat) (A : Option Addr) (c : Nat) (l : List Int) : Prop := w.ownsRow base 3 1 (.slice A l.length c) l.length (l.map (Value.int .i64))
theorem ownI_snoc {w : World} {base : Nat} {A : Option Addr} {c : Nat} {l : List Int} {x : Int} (h : w.ownsRow base 3 1 (.slice A (l.length + 1) c) (l.length + 1) (l.map (Value.int .i64) ++ [.int .i64 x])) : OwnI w base A c (l ++ [x]) := by
  unfold OwnI
  simpa using h
theorem OwnI.calc_ {w w' : World} {base c : Nat} {A : Option Addr} {l : List Int} (h : OwnI w base A c l) (hb : Below w.heap.size w w') : OwnI w' base A c l :=
  World.ownsRow.kept h (Only.of_below hb w.heap.size) (.inr (fun e => by have := (World.ownsRow.lt h _ e).2; omega))
theorem ownI_made (w : World) (base m : Nat) (cs : Array Value) (hs : cs.size = m) (hm : m ≤ 1000000) (hb : base ≤ w.heap.size) : OwnI (w.alloc (.cells cs 3)) base (some ⟨w.heap.size, 0, none⟩) m [] :=
  ⟨rfl, .inr ⟨w.heap.size, m, cs, rfl, hb, heap_alloc_new w _, Nat.zero_le _, by unfold maxLen; omega, by omega, by simp⟩⟩
theorem make_ints0 (m : Nat) (hm : m ≤ 1000000) (W : World) :
    (Instr.makeSlice 22 (.int .i64 0) (.int .i64 (m : Int))).run Try.prog W = .ok (.slice (some ⟨W.heap.size, 0, none⟩) 0 m) (W.alloc (.cells (pc (fun _ => 0) m 0) 3)) := by
  obtain ⟨i0, hi, hz0, hz1, hz2⟩ := info_parts infoInt
  have := run_make_rowN (P := Try.prog) 22 3 i0 (.int .i64 0) Try.underlying22 hi hz0 .i64 .i64 0 m (Nat.zero_le _) (by rw [hz2]; omega) (by omega) W
  rw [show ((0 : Nat) : Int) = 0 from rfl] at this
  rw [this, hz1]
  show Result.ok _ (W.alloc (.cells (madeCells #[.int .i64 0] (m * 1)) 3)) = _
  rw [made_pc (fun _ => 0) m]
theorem BX.app {w W w3 : World} {cs : Array Value} {o : Obj} (h : BX w cs W) (hb : Below (w.heap.size + 1) (W.alloc o) w3) : BX w cs w3 := by
  have h1 := h.calc_ ((Below.refl _ _).alloc (Nat.le_refl _) o)
  exact ⟨h1.below.trans (hb.mono (by omega)), h1.box.below hb (by omega)⟩
/-- the sum of the first k incomes -/
def totTo (xs : List Int) (k : Nat) : Int := sumTo (at1 xs) k
theorem totTo_succ (xs : List Int) (k : Nat) : totTo xs (k + 1) = totTo xs k + at1 xs k := rfl
def allA (xs : List Int) (k : Nat) : Prop := ∀ i, i < k → amtB (at1 xs i) = true
theorem allA_next {xs : List Int} {k : Nat} (h : allA xs k) (ha : amtB (at1 xs k) = true) : allA xs (k + 1) := fun i hi => by
  by_cases e : i = k
  · subst e; exact ha
  · exact h i (by omega)
theorem tot_bd {xs : List Int} : ∀ k, allA xs k → 0 ≤ totTo xs k ∧ totTo xs k ≤ 1000000000 * k
  | 0, _ => by simp [totTo, sumTo]
  | k + 1, h => by
    have ih := tot_bd k (fun i hi => h i (by omega))
    have ha := amt_iff.1 (h k (by omega))
    rw [totTo_succ]
    omega
/-- what is due after k periods -/
noncomputable def dAt (t : TF) (c : Int) (xs : List Int) (k : Nat) : Int := if k = 0 then 0 else dueX t c (k : Int) (totTo xs k)
noncomputable def yrTo (t : TF) (c : Int) (xs : List Int) : Nat → List Int
  | 0 => []
  | k + 1 => yrTo t c xs k ++ [dAt t c xs (k + 1) - dAt t c xs k]
theorem yrTo_len (t : TF) (c : Int) (xs : List Int) : ∀ k, (yrTo t c xs k).length = k
  | 0 => rfl
  | k + 1 => by rw [yrTo, List.length_append, yrTo_len t c xs k]; rfl
theorem yrTo_at (t : TF) (c : Int) (xs : List Int) : ∀ k i, i < k → at1 (yrTo t c xs k) i = dAt t c xs (i + 1) - dAt t c xs i
  | 0, i, h => by omega
  | k + 1, i, h => by
    rw [yrTo]
    by_cases e : i = k
    · subst e
      have := yrTo_len t c xs i
      simp [at1, List.getElem?_append, this]
    · have ih := yrTo_at t c xs k i (by omega)
      have hl := yrTo_len t c xs k
      rw [← ih]
      simp [at1, List.getElem?_append, hl, show i < k by omega]
theorem dAt_bd {t : TF} {c : Int} {xs : List Int} (hv : tvB t = true) (h1 : 1 ≤ c) (h53 : c ≤ 53) {k : Nat} (hk : (k : Int) ≤ c) (ha : allA xs k) : 0 ≤ dAt t c xs k ∧ dAt t c xs k ≤ 53000000100 := by
  unfold dAt
  split
  · omega
  · have ht := tot_bd k ha
    have := due_bd (t := t) (c := c) (k := k) (tot := totTo xs k) hv ⟨h1, h53, by omega, hk, by omega, by omega⟩
    omega
theorem cum_at {t : TF} {c : Int} {xs : List Int} (hv : tvB t = true) (h1 : 1 ≤ c) (h53 : c ≤ 53) {k : Nat} (hk : (k : Int) + 1 ≤ c) (ha : allA xs (k + 1)) :
    cumV t c (k + 1) (totTo xs (k + 1)) (dAt t c xs k) = dAt t c xs (k + 1) - dAt t c xs k ∧ cumE t c (k + 1) (totTo xs (k + 1)) (dAt t c xs k) = 0 := by
  have ht := tot_bd (k + 1) ha
  have hd := dAt_bd hv h1 h53 (k := k) (by omega) (fun i hi => ha i (by omega))
  have hp : dueP c ((k : Int) + 1) (totTo xs (k + 1)) := ⟨h1, h53, by omega, hk, by omega, by omega⟩
  have e0 : dueE t c (k + 1) (totTo xs (k + 1)) = 0 := (if_ok (x := dueX t c (k + 1) (totTo xs (k + 1))) hv hp).2
  have e1 : dueV t c (k + 1) (totTo xs (k + 1)) = dueX t c (k + 1) (totTo xs (k + 1)) := (if_ok (c := 2) hv hp).1
  have hw : wtB (dAt t c xs k) = true := by simp [wtB]; omega
  have e2 : dAt t c xs (k + 1) = dueX t c (k + 1) (totTo xs (k + 1)) := by unfold dAt; rw [if_neg (by omega)]; simp
  unfold cumV cumE
  rw [e0, hw, e1, e2]
  simp
abbrev yrP (c : Int) (xs : List Int) : Prop := 1 ≤ c ∧ c ≤ 53 ∧ (xs.length : Int) ≤ c
noncomputable def yrE (t : TF) (c : Int) (xs : List Int) : Int := if tvB t = true then (if yrP c xs then (@ite _ (allA xs xs.length) (Classical.propDecidable _) 0 2) else 3) else 1
noncomputable def yrL (t : TF) (c : Int) (xs : List Int) : List Int := if yrE t c xs = 0 then yrTo t c xs xs.length else []
def YrPost (t : TF) (c : Int) (xs : List Int) (w : World) (e : Ending) (w' : World) : Prop :=
  ∃ A n, e = .returned (.tuple #[.slice A (yrL t c xs).length n, .int .i64 (yrE t c xs)]) ∧ Below w.heap.size w w' ∧ RdI w' w'.heap.size A (yrL t c xs)
theorem yr_bad {t : TF} {c : Int} {xs : List Int} (h : tvB t = false) : yrE t c xs = 1 := by unfold yrE; rw [h]; rfl
theorem yr_lim {t : TF} {c : Int} {xs : List Int} (h : tvB t = true) (hp : ¬ yrP c xs) : yrE t c xs = 3 := by unfold yrE; rw [if_pos h, if_neg hp]
theorem yr_range {t : TF} {c : Int} {xs : List Int} (h : tvB t = true) (hp : yrP c xs) (ha : ¬ allA xs xs.length) : yrE t c xs = 2 := by unfold yrE; rw [if_pos h, if_pos hp, if_neg ha]
theorem yr_ok {t : TF} {c : Int} {xs : List Int} (h : tvB t = true) (hp : yrP c xs) (ha : allA xs xs.length) : yrE t c xs = 0 := by unfold yrE; rw [if_pos h, if_pos hp, if_pos ha]
theorem yr_no {t : TF} {c : Int} {xs : List Int} {w w' : World} {k : Int} (h : yrE t c xs = k) (hk : k ≠ 0) (hb : Below w.heap.size w w') : YrPost t c xs w (.returned (.tuple #[.slice none 0 0, .int .i64 k])) w' := by
  have e : yrL t c xs = [] := by unfold yrL; rw [h, if_neg hk]
  exact ⟨none, 0, by rw [h, e]; rfl, hb, by rw [e]; exact Rd.none_⟩
theorem yr_yes {t : TF} {c : Int} {xs : List Int} {w w' : World} {A : Option Addr} {n : Nat} (h : yrE t c xs = 0) (hb : Below w.heap.size w w') (hr : RdI w' w'.heap.size A (yrTo t c xs xs.length)) : YrPost t c xs w (.returned (.tuple #[.slice A (yrTo t c xs xs.length).length n, .int .i64 0])) w' := by
  have e : yrL t c xs = yrTo t c xs xs.length := by unfold yrL; rw [if_pos h]
  exact ⟨A, n, by rw [h, e], hb, by rw [e]; exact hr⟩
set_option maxHeartbeats 800000 in
theorem ints_eq (E : List Int) (A A' : Option Addr) (n n' : Nat) (w : World) (hr : RdI w w.heap.size A E) (hr' : RdI w w.heap.size A' E) (hl : E.length ≤ 9223372036854775807) :
    Calls Try.prog 28 #[.slice A E.length n, .slice A' E.length n'] w (RetB true w) := by
  have HR := Lib.hid hr
  have HR' := Lib.hid hr'
  have d3 : ((E.length : Int) != (E.length : Int)) = false := by simp
  have HA : Hid (∀ m, Below w.heap.size w (w.drewN m)) := Lib.hid (fun m => below_drewN (Below.refl _ _) m)
  clear hr hr'
  go_enter Try.func28, Try.ntmps28
  go_wp2
  go_loopw [5] (fun i wr => ∃ k : Nat, k ≤ E.length ∧ i = .int .i64 k ∧ ∃ m, wr = w.drewN m) (fun i _ => E.length - (intOf i).toNat)
  case atStart => exact ⟨0, Nat.zero_le _, rfl, 0, rfl⟩
  case round =>
    obtain ⟨k, hk, rfl, m, rfl⟩ := hrel
    by_cases hlt : k < E.length
    · obtain ⟨b, off, rfl, hb, e1⟩ := HR.out.at_ hlt
      obtain ⟨b', off', rfl, hb', e2⟩ := HR'.out.at_ hlt
      have e3 : (at1 E k != at1 E k) = false := by simp
      go_wp2
      go_quiet (fail)
      go_wp2
      go_roundw
      case rel => exact ⟨k + 1, by omega, by go_num, _, rfl⟩
      case measure => simp [intOf]; omega
    · go_wp2
      go_ret
      exact ⟨rfl, HA.out _⟩

end Go.Proofs.Ytcincmlpegnaiaa
