/-
  Chapter 10: shift.Assign. The memory is that of the given program; no conditions.
-/
import Derived.Test.YtagkdkkpgcolkaaDu3r
import Derived.Test.YtagkdkkpgcolkaaMapO
namespace Go.Proofs.Ytagkdkkpgcolkaa
open Go.RowKit
open Go.Maps (Keyed IsMap Tidy)
set_option linter.unusedVariables false
set_option linter.unusedSimpArgs false
noncomputable def asE (o : Int) (zl : List (Int × Int)) (l : List T3) (P : List Pr) (early late : Int) : Int := if vE o zl l = 0 then (if 0 ≤ early ∧ early ≤ 1440 ∧ 0 ≤ late ∧ late ≤ 1440 then prV P else 2) else vE o zl l
noncomputable def asL (o : Int) (zl : List (Int × Int)) (l : List T3) (P : List Pr) (early late : Int) : List Du := asTo o zl l (spL o zl l l.length) early late P P.length
def AssignPost (o : Int) (zl : List (Int × Int)) (l : List T3) (P : List Pr) (early late : Int) (w : World) (e : Ending) (w' : World) : Prop :=
  Below w.heap.size w w' ∧ ((¬ asE o zl l P early late = 0 ∧ e = .returned (.tuple #[.slice none 0 0, .int .i64 (asE o zl l P early late)])) ∨
    (asE o zl l P early late = 0 ∧ ∃ A c n, n = (asL o zl l P early late).length ∧ e = .returned (.tuple #[.slice A n c, .int .i64 0]) ∧ RdDu w' A (asL o zl l P early late) ∧ n ≤ c ∧ c ≤ 9223372036854775807))
theorem assign_bad {o : Int} {zl : List (Int × Int)} {l : List T3} {P : List Pr} {early late : Int} {w w' : World} {e : Int} (hv : Hid (asE o zl l P early late = e)) (he : ¬ e = 0) (hb : Below w.heap.size w w') : AssignPost o zl l P early late w (.returned (.tuple #[.slice none 0 0, .int .i64 e])) w' := by
  have h := hv.out
  subst h
  exact ⟨hb, .inl ⟨he, rfl⟩⟩
theorem dIx_dAdd_len (ds : List Du) (s y : Int) (p : Pr) : (dAdd ds s y p).length ≤ ds.length + 1 := by
  unfold dAdd
  split <;> simp
theorem as_len {o : Int} {zl : List (Int × Int)} {l : List T3} {S : List (Int × Int)} {early late : Int} {P : List Pr} (k : Nat) : (asTo o zl l S early late P k).length ≤ k := by
  induction k with
  | zero => simp [asTo]
  | succ k ih =>
    rw [asTo]
    have := dIx_dAdd_len (asTo o zl l S early late P k) (kS S (pF P k) early late) (kD o zl l S (pF P k) early late) (P.getD k (0, 0, []))
    omega
theorem uP_len (k : Nat) {o : Int} {zl : List (Int × Int)} {l : List T3} {S : List (Int × Int)} {early late : Int} {P : List Pr} : ∀ i, (uP (asTo o zl l S early late P k) i).length ≤ k := by
  induction k with
  | zero => intro i; simp [asTo, uP]
  | succ k ih =>
    intro i
    rw [asTo, dAdd_eq]
    split
    · rename_i hlt
      rw [(uP_mod _ hlt i).2.2]
      split
      · rw [List.length_append]; have := ih (dIx (asTo o zl l S early late P k) (kS S (pF P k) early late) (kD o zl l S (pF P k) early late)); simp; omega
      · have := ih i; omega
    · rw [(uP_mod _ (by simp) i).2.2]
      split
      · rw [List.length_append, (uP_end rfl).2.2]; simp
      · rename_i hne
        by_cases hi : i < (asTo o zl l S early late P k).length
        · rw [(uP_app hi).2.2]; have := ih i; omega
        · have : uP (asTo o zl l S early late P k ++ [(kS S (pF P k) early late, kD o zl l S (pF P k) early late, [])]) i = [] := by
            unfold uP
            rw [List.getD_eq_getElem?_getD, List.getElem?_eq_none (by simp; omega)]
            rfl
          rw [this]; simp
theorem as_next {o : Int} {zl : List (Int × Int)} {l : List T3} {S : List (Int × Int)} {early late : Int} {P : List Pr} {k : Nat} {s y f t : Int} {bs : List (Int × Int)} (hk : k < P.length) (hs : Hid (s = kS S (pF P k) early late)) (hy : Hid (y = kD o zl l S (pF P k) early late)) (hf : Hid (f = pF P k)) (ht : Hid (t = pT P k)) (hb : Hid (bs = pB P k)) :
    asTo o zl l S early late P (k + 1) = dAdd (asTo o zl l S early late P k) s y (f, t, bs) := by
  rw [asTo, hs.out, hy.out, hf.out, ht.out, hb.out]
  rfl
theorem day_at {o t d : Int} {zl : List (Int × Int)} {zA : Option Addr} {zc zn : Nat} {W : World} (hn : Hid (zn = zl.length)) (hz : Hid (zerr o zl = 0)) (hd : Hid (d = dayR o zl t)) (ht : instOk t) (hr : RdP W W.heap.size zA zl) (hl : Hid (zl.length ≤ 9223372036854775807)) : Calls Try.prog 29 #[.agg #[.int .i64 o, .slice zA zn zc], .int .i64 t] W (RetII d 0 W) := by
  have h := day_any zA zc W.heap.size o zl W hr (Nat.le_refl _) hl.out t
  have he : offE o zl t = 0 := by unfold offE; rw [if_pos hz.out, if_pos ht]
  rw [he, ← hd.out, ← hn.out] at h
  exact h
theorem dayR_bd {o t : Int} {zl : List (Int × Int)} (hz : zerr o zl = 0) (ht : instOk t) : 0 ≤ dayR o zl t ∧ dayR o zl t ≤ 84005 := by
  have he : offE o zl t = 0 := by unfold offE; rw [if_pos hz, if_pos ht]
  unfold dayR
  rw [if_pos he]
  exact dayV_bd (zval_of hz) t ht
theorem belongs_at {A : Option Addr} {c n : Nat} {S : List (Int × Int)} {t early late b : Int} {w : World} (hb : Hid (b = blV S t early late)) (hn : Hid (n = S.length)) (hr : RdP w w.heap.size A S) (hl : n ≤ 100000) (hS : SBd S) (ht0 : 0 ≤ t) (ht1 : t ≤ 120968640) (he0 : 0 ≤ early) (he1 : early ≤ 1440) (hl0 : 0 ≤ late) (hl1 : late ≤ 1440) :
    Calls Try.prog 37 #[.slice A n c, .int .i64 t, .int .i64 early, .int .i64 late] w (RetI b w) := by
  rw [hb.out]; exact belongs_any A c n S t early late w hn hr hl hS ht0 ht1 he0 he1 hl0 hl1
theorem pvalid_at {A : Option Addr} {c n : Nat} {l : List Pr} {v : Int} {w : World} (hn : Hid (n = l.length)) (hv : Hid (v = prV l)) (hr : RdPr w A l) (hl : n ≤ 9223372036854775807) : Calls Try.prog 36 #[.slice A n c] w (RetI v w) := by
  rw [hv.out]; exact pvalid_any A c n l w hn hr hl
/-- the duties so far -/
structure AsL (o : Int) (zl : List (Int × Int)) (l : List T3) (P : List Pr) (S : List (Int × Int)) (early late : Int) (wL : World) (b : Nat) (k : Nat) (A : Option Addr) (c : Nat) (wr : World) : Prop where
  du : ∃ ms, DuO wr wL.heap.size wr.heap.size (.slice A (asTo o zl l S early late P k).length c) (asTo o zl l S early late P k) ms
  map : MapO wr b k (asTo o zl l S early late P k)
  chg : Chg (fun g => g = b) wL wr
theorem AsL.nil (o : Int) (zl : List (Int × Int)) (l : List T3) (P : List Pr) (S : List (Int × Int)) (early late : Int) (w : World) : AsL o zl l P S early late (w.alloc (.map #[] 0)) w.heap.size 0 none 0 (w.alloc (.map #[] 0)) :=
  ⟨⟨[], DuO.nil _ _ _⟩, MapO.made w, Chg.refl _ _⟩
end Go.Proofs.Ytagkdkkpgcolkaa
