/-
  Chapter 10: duties in memory, built by append. No walk; the memory is that of the given program.
-/
import Derived.Test.YtagkdkkpgcolkaaSh12
namespace Go.Proofs.Ytagkdkkpgcolkaa
open Go.RowKit
set_option linter.unusedVariables false
set_option linter.unusedSimpArgs false
abbrev M3 := Int × Int × Value
def flatV (l : List M3) : List Value := l.flatMap fun p => [.int .i64 p.1, .int .i64 p.2.1, p.2.2]
def mA (l : List M3) (i : Nat) : Int := (l.getD i (0, 0, .slice none 0 0)).1
def mB (l : List M3) (i : Nat) : Int := (l.getD i (0, 0, .slice none 0 0)).2.1
def mC (l : List M3) (i : Nat) : Value := (l.getD i (0, 0, .slice none 0 0)).2.2
def uS (l : List Du) (i : Nat) : Int := (l.getD i (0, 0, [])).1
def uD (l : List Du) (i : Nat) : Int := (l.getD i (0, 0, [])).2.1
def uP (l : List Du) (i : Nat) : List Pr := (l.getD i (0, 0, [])).2.2
def dTo (p : Pr) (d : Du) : Du := (d.1, d.2.1, d.2.2 ++ [p])
theorem flatV_len (l : List M3) : (flatV l).length = l.length * 3 := by
  induction l with
  | nil => rfl
  | cons a t ih => simp [flatV] at ih ⊢; omega
theorem flatV_snoc (l : List M3) (x : M3) : flatV (l ++ [x]) = flatV l ++ [.int .i64 x.1, .int .i64 x.2.1, x.2.2] := by simp [flatV]
theorem flatV_get (l : List M3) : ∀ i, i < l.length → (flatV l)[i * 3]? = some (.int .i64 (mA l i)) ∧ (flatV l)[i * 3 + 1]? = some (.int .i64 (mB l i)) ∧ (flatV l)[i * 3 + 2]? = some (mC l i) := by
  induction l with
  | nil => intro i h; simp at h
  | cons a t ih =>
    intro i h
    have e : flatV (a :: t) = .int .i64 a.1 :: .int .i64 a.2.1 :: a.2.2 :: flatV t := by simp [flatV]
    rw [e]
    cases i with
    | zero => simp [mA, mB, mC]
    | succ i =>
      have h1 := ih i (by simpa using h)
      have e1 : (i + 1) * 3 = i * 3 + 3 := by omega
      rw [e1]
      simpa [mA, mB, mC] using h1
theorem flatV_set (l : List M3) (v : Value) : ∀ i, i < l.length → (flatV l).set (i * 3 + 2) v = flatV (l.set i (mA l i, mB l i, v)) := by
  induction l with
  | nil => intro i h; simp at h
  | cons a t ih =>
    intro i h
    have e : flatV (a :: t) = .int .i64 a.1 :: .int .i64 a.2.1 :: a.2.2 :: flatV t := by simp [flatV]
    rw [e]
    cases i with
    | zero => simp [mA, mB, flatV]
    | succ i =>
      have h1 := ih i (by simpa using h)
      have e1 : (i + 1) * 3 + 2 = (i * 3 + 2) + 3 := by omega
      rw [e1]
      simp only [List.set_cons_succ, h1]
      simp [flatV, mA, mB]
section
variable {l : List M3} {x : M3}
theorem mC_app {i : Nat} (h : i < l.length) : mA (l ++ [x]) i = mA l i ∧ mB (l ++ [x]) i = mB l i ∧ mC (l ++ [x]) i = mC l i := by
  unfold mA mB mC
  simp only [List.getD_eq_getElem?_getD]
  rw [List.getElem?_append_left h]
  exact ⟨rfl, rfl, rfl⟩
theorem mC_end {i : Nat} (h : i = l.length) : mA (l ++ [x]) i = x.1 ∧ mB (l ++ [x]) i = x.2.1 ∧ mC (l ++ [x]) i = x.2.2 := by
  subst h
  unfold mA mB mC
  simp only [List.getD_eq_getElem?_getD]
  simp
theorem mC_set {i : Nat} (h : i < l.length) (v : Value) (j : Nat) : mA (l.set i (mA l i, mB l i, v)) j = mA l j ∧ mB (l.set i (mA l i, mB l i, v)) j = mB l j ∧ mC (l.set i (mA l i, mB l i, v)) j = if j = i then v else mC l j := by
  by_cases hj : j = i
  · subst hj
    rw [if_pos rfl]
    unfold mA mB mC
    simp only [List.getD_eq_getElem?_getD]
    simp [h]
  · rw [if_neg hj]
    unfold mA mB mC
    simp only [List.getD_eq_getElem?_getD]
    rw [List.getElem?_set_ne (Ne.symm hj)]
    exact ⟨rfl, rfl, rfl⟩
end
section
variable {l : List Pr} {x : Pr}
theorem pB_app {i : Nat} (h : i < l.length) : pF (l ++ [x]) i = pF l i ∧ pT (l ++ [x]) i = pT l i ∧ pB (l ++ [x]) i = pB l i := by
  unfold pF pT pB
  simp only [List.getD_eq_getElem?_getD]
  rw [List.getElem?_append_left h]
  exact ⟨rfl, rfl, rfl⟩
theorem pB_end {i : Nat} (h : i = l.length) : pF (l ++ [x]) i = x.1 ∧ pT (l ++ [x]) i = x.2.1 ∧ pB (l ++ [x]) i = x.2.2 := by
  subst h
  unfold pF pT pB
  simp only [List.getD_eq_getElem?_getD]
  simp
end
section
variable {l : List Du} {x : Du}
theorem uP_app {i : Nat} (h : i < l.length) : uS (l ++ [x]) i = uS l i ∧ uD (l ++ [x]) i = uD l i ∧ uP (l ++ [x]) i = uP l i := by
  unfold uS uD uP
  simp only [List.getD_eq_getElem?_getD]
  rw [List.getElem?_append_left h]
  exact ⟨rfl, rfl, rfl⟩
theorem uP_end {i : Nat} (h : i = l.length) : uS (l ++ [x]) i = x.1 ∧ uD (l ++ [x]) i = x.2.1 ∧ uP (l ++ [x]) i = x.2.2 := by
  subst h
  unfold uS uD uP
  simp only [List.getD_eq_getElem?_getD]
  simp
theorem uP_mod (p : Pr) {i : Nat} (h : i < l.length) (j : Nat) : uS (l.modify i (dTo p)) j = uS l j ∧ uD (l.modify i (dTo p)) j = uD l j ∧ uP (l.modify i (dTo p)) j = if j = i then uP l i ++ [p] else uP l j := by
  unfold uS uD uP
  simp only [List.getD_eq_getElem?_getD, List.getElem?_modify]
  by_cases hj : j = i
  · subst hj
    simp [h, dTo]
  · have h1 : ¬ i = j := Ne.symm hj
    simp only [if_neg h1, if_neg hj]
    cases l[j]? <;> simp
theorem modify_end (l : List Du) (x : Du) (f : Du → Du) : (l ++ [x]).modify l.length f = l ++ [f x] := by
  induction l with
  | nil => rfl
  | cons a t ih => simp [List.modify_succ_cons, ih]
theorem dAdd_eq (s y : Int) (p : Pr) : dAdd l s y p = if dIx l s y < l.length then l.modify (dIx l s y) (dTo p) else (l ++ [(s, y, [])]).modify l.length (dTo p) := by
  unfold dAdd dTo
  split
  · rfl
  · rw [modify_end]; simp
end
theorem own_blk {w : World} {base : Nat} {e : TypeId} {size n : Nat} {v : Value} {xs : List Value} (h : w.ownsRow base e size v n xs) {g : Nat} (hg : v.ownBlock = some g) : ∃ cs, Blk w g e cs := by
  rcases h.2 with ⟨rfl, _⟩ | ⟨g', cap, cur, rfl, _, hh, _⟩
  · simp [Value.ownBlock] at hg
  · have : g' = g := by simpa [Value.ownBlock] using hg
    subst this
    exact ⟨cur, hh⟩
theorem own_cap {w : World} {base : Nat} {e : TypeId} {size : Nat} {A : Option Addr} {n c : Nat} {xs : List Value} (h : w.ownsRow base e size (.slice A n c) n xs) : n ≤ c ∧ c ≤ 9223372036854775807 := by
  rcases h.2 with ⟨h, h'⟩ | ⟨g, cap, cur, h, _, _, hnc, hm, _⟩
  · injection h with _ h1 h2
    omega
  · injection h with _ h1 h2
    unfold maxLen at hm
    omega
/-- a row of presences, the breaks in rows of their own -/
structure OwnPs (W : World) (base N : Nat) (v : Value) (ps : List Pr) (ms : List M3) : Prop where
  row : W.ownsRow base 58 3 v ps.length (flatV ms)
  len : ms.length = ps.length
  lt : ∀ g, v.ownBlock = some g → g < N
  at_ : ∀ k, k < ps.length → mA ms k = pF ps k ∧ mB ms k = pT ps k ∧ ∃ A c, mC ms k = .slice A (pB ps k).length c ∧ W.ownsRow base 38 2 (.slice A (pB ps k).length c) (pB ps k).length (flat2 (pB ps k))
theorem OwnPs.nil (W : World) (base N : Nat) : OwnPs W base N (.slice none 0 0) [] [] :=
  ⟨World.ownsRow_nil _ _ _ _, rfl, fun g h => by simp [Value.ownBlock] at h, fun k h => by simp at h⟩
theorem OwnPs.chg {S : Nat → Prop} {W W' : World} {base N N' : Nat} {v : Value} {ps : List Pr} {ms : List M3} (h : OwnPs W base N v ps ms) (k : Chg S W W') (hN : N ≤ N') (h1 : ∀ g, v.ownBlock = some g → ¬ S g) (h2 : ∀ g, S g → ∀ cs, ¬ Blk W g 38 cs) : OwnPs W' base N' v ps ms := by
  refine ⟨own_chg h.row k h1, h.len, fun g hg => Nat.lt_of_lt_of_le (h.lt g hg) hN, fun j hj => ?_⟩
  obtain ⟨e1, e2, A, c, e3, hr⟩ := h.at_ j hj
  refine ⟨e1, e2, A, c, e3, own_chg hr k (fun g hg hs => ?_)⟩
  obtain ⟨cs, hc⟩ := own_blk hr hg
  exact h2 g hs cs hc
theorem OwnPs.snoc {W W' : World} {base N N' : Nat} {v v' : Value} {ps : List Pr} {ms : List M3} {f t : Int} {A : Option Addr} {c : Nat} {bs : List (Int × Int)} (h : OwnPs W base N v ps ms) (k : Chg (fun g => v.ownBlock = some g) W W')
    (hr : W'.ownsRow base 58 3 v' (ps.length + 1) (flatV ms ++ [.int .i64 f, .int .i64 t, .slice A bs.length c])) (hN : ∀ g, v'.ownBlock = some g → g < N')
    (hb : W'.ownsRow base 38 2 (.slice A bs.length c) bs.length (flat2 bs)) : OwnPs W' base N' v' (ps ++ [(f, t, bs)]) (ms ++ [(f, t, .slice A bs.length c)]) := by
  refine ⟨by rw [flatV_snoc, List.length_append]; exact hr, by simp [h.len], hN, fun j hj => ?_⟩
  rw [List.length_append] at hj
  simp only [List.length_cons, List.length_nil] at hj
  by_cases hlt : j < ps.length
  · have hm : j < ms.length := by rw [h.len]; exact hlt
    obtain ⟨e1, e2, A', c', e3, hr'⟩ := h.at_ j hlt
    rw [(mC_app hm).1, (mC_app hm).2.1, (mC_app hm).2.2, (pB_app hlt).1, (pB_app hlt).2.1, (pB_app hlt).2.2]
    refine ⟨e1, e2, A', c', e3, own_chg hr' k (fun g hg hs => ?_)⟩
    obtain ⟨cs, hc⟩ := own_blk hr' hg
    obtain ⟨cs', hc'⟩ := own_blk h.row hs
    exact Blk.ne_ hc hc' (by decide) rfl
  · have hj1 : j = ps.length := by omega
    have hj2 : j = ms.length := by rw [h.len]; exact hj1
    rw [(mC_end hj2).1, (mC_end hj2).2.1, (mC_end hj2).2.2, (pB_end hj1).1, (pB_end hj1).2.1, (pB_end hj1).2.2]
    exact ⟨rfl, rfl, A, c, rfl, hb⟩
/-- duties, their presences in rows of their own -/
structure DuO (W : World) (base N : Nat) (v : Value) (ds : List Du) (ms : List M3) : Prop where
  row : W.ownsRow base 55 3 v ds.length (flatV ms)
  len : ms.length = ds.length
  at_ : ∀ i, i < ds.length → mA ms i = uS ds i ∧ mB ms i = uD ds i ∧ ∃ ps, OwnPs W base N (mC ms i) (uP ds i) ps
  apart : ∀ i j g, i < ds.length → j < ds.length → i ≠ j → (mC ms i).ownBlock = some g → (mC ms j).ownBlock ≠ some g
theorem DuO.nil (W : World) (base N : Nat) : DuO W base N (.slice none 0 0) [] [] :=
  ⟨World.ownsRow_nil _ _ _ _, rfl, fun k h => by simp at h, fun i j g h => by simp at h⟩
theorem DuO.chg {S : Nat → Prop} {W W' : World} {base N N' : Nat} {v : Value} {ds : List Du} {ms : List M3} (h : DuO W base N v ds ms) (k : Chg S W W') (hN : N ≤ N')
    (hS : ∀ g, S g → (∀ cs, ¬ Blk W g 55 cs) ∧ (∀ cs, ¬ Blk W g 38 cs) ∧ ∀ cs, Blk W g 58 cs → N ≤ g) : DuO W' base N' v ds ms := by
  refine ⟨own_chg h.row k (fun g hg hs => ?_), h.len, fun i hi => ?_, h.apart⟩
  · obtain ⟨cs, hc⟩ := own_blk h.row hg
    exact (hS g hs).1 cs hc
  · obtain ⟨e1, e2, ps, hp⟩ := h.at_ i hi
    refine ⟨e1, e2, ps, hp.chg k hN (fun g hg hs => ?_) (fun g hs => (hS g hs).2.1)⟩
    obtain ⟨cs, hc⟩ := own_blk hp.row hg
    have h1 := (hS g hs).2.2 cs hc
    have h2 := hp.lt g hg
    omega
theorem DuO.below {W W' : World} {base N N' : Nat} {v : Value} {ds : List Du} {ms : List M3} (h : DuO W base N v ds ms) (hb : Below W.heap.size W W') (hN : N ≤ N') : DuO W' base N' v ds ms :=
  h.chg (S := fun _ => False) (Chg.of_below hb (fun i h1 h2 => by omega)) hN (fun g hg => hg.elim)
theorem DuO.push {W W' : World} {base N : Nat} {v v' : Value} {ds : List Du} {ms : List M3} {s y : Int} (h : DuO W base N v ds ms) (k : Chg (fun g => v.ownBlock = some g) W W')
    (hr : W'.ownsRow base 55 3 v' (ds.length + 1) (flatV ms ++ [.int .i64 s, .int .i64 y, .slice none 0 0])) : DuO W' base N v' (ds ++ [(s, y, [])]) (ms ++ [(s, y, .slice none 0 0)]) := by
  refine ⟨by rw [flatV_snoc, List.length_append]; exact hr, by simp [h.len], fun i hi => ?_, fun i j g hi hj hij => ?_⟩
  · rw [List.length_append] at hi
    simp only [List.length_cons, List.length_nil] at hi
    by_cases hlt : i < ds.length
    · have hm : i < ms.length := by rw [h.len]; exact hlt
      obtain ⟨e1, e2, ps, hp⟩ := h.at_ i hlt
      rw [(mC_app hm).1, (mC_app hm).2.1, (mC_app hm).2.2, (uP_app hlt).1, (uP_app hlt).2.1, (uP_app hlt).2.2]
      refine ⟨e1, e2, ps, hp.chg k (Nat.le_refl _) (fun g hg hs => ?_) (fun g hs cs hc => ?_)⟩
      · obtain ⟨cs, hc⟩ := own_blk hp.row hg
        obtain ⟨cs', hc'⟩ := own_blk h.row hs
        exact Blk.ne_ hc hc' (by decide) rfl
      · obtain ⟨cs', hc'⟩ := own_blk h.row hs
        exact Blk.ne_ hc hc' (by decide) rfl
    · have hi1 : i = ds.length := by omega
      have hi2 : i = ms.length := by rw [h.len]; exact hi1
      rw [(mC_end hi2).1, (mC_end hi2).2.1, (mC_end hi2).2.2, (uP_end hi1).1, (uP_end hi1).2.1, (uP_end hi1).2.2]
      exact ⟨rfl, rfl, [], OwnPs.nil _ _ _⟩
  · rw [List.length_append] at hi hj
    simp only [List.length_cons, List.length_nil] at hi hj
    by_cases hlt : i < ds.length
    · have hm : i < ms.length := by rw [h.len]; exact hlt
      rw [(mC_app hm).2.2]
      by_cases hlj : j < ds.length
      · have hmj : j < ms.length := by rw [h.len]; exact hlj
        rw [(mC_app hmj).2.2]
        exact h.apart i j g hlt hlj hij
      · have hj2 : j = ms.length := by rw [h.len]; omega
        rw [(mC_end hj2).2.2]
        intro _
        simp [Value.ownBlock]
    · have hi2 : i = ms.length := by rw [h.len]; omega
      rw [(mC_end hi2).2.2]
      intro hg
      simp [Value.ownBlock] at hg
theorem DuO.add {W W' : World} {base N gD n c i H : Nat} {v1 : Value} {ds : List Du} {ms ps : List M3} {f t : Int} {A : Option Addr} {cb : Nat} {bs : List (Int × Int)} (h : DuO W base N (.slice (some ⟨gD, 0, none⟩) n c) ds ms) (hi : i < ds.length) (hp : OwnPs W base N (mC ms i) (uP ds i) ps)
    (k : Chg (fun g => (mC ms i).ownBlock = some g) W W') (hr : W'.ownsRow base 58 3 v1 ((uP ds i).length + 1) (flatV ps ++ [.int .i64 f, .int .i64 t, .slice A bs.length cb]))
    (hat : v1.ownBlock = (mC ms i).ownBlock ∨ v1.ownBlock = some H) (hH : N ≤ H) (hNW : N ≤ W'.heap.size)
    (hb : W'.ownsRow base 38 2 (.slice A bs.length cb) bs.length (flat2 bs)) (hn : n = ds.length) :
    DuO (W'.setCell ⟨gD, i * 3 + 2, none⟩ v1) base W'.heap.size (.slice (some ⟨gD, 0, none⟩) n c) (ds.modify i (dTo (f, t, bs))) (ms.set i (mA ms i, mB ms i, v1)) := by
  subst hn
  have him : i < ms.length := by rw [h.len]; exact hi
  have hD1 : W'.ownsRow base 55 3 (.slice (some ⟨gD, 0, none⟩) ds.length c) ds.length (flatV ms) := own_chg h.row k (fun g hg hs => by
    obtain ⟨cs, hc⟩ := own_blk h.row hg
    obtain ⟨cs', hc'⟩ := own_blk hp.row hs
    exact Blk.ne_ hc hc' (by decide) rfl)
  obtain ⟨csD, hcD⟩ := own_blk hD1 (g := gD) rfl
  have kS : Chg (fun g => g = gD) W' (W'.setCell ⟨gD, i * 3 + 2, none⟩ v1) := Chg.setCell (S := fun g => g = gD) (p := ⟨gD, i * 3 + 2, none⟩) (Chg.refl _ _) (fun _ => rfl) _
  have hD2 := (hD1.stored (i * 3 + 2) v1).1
  have hNo : ∀ {v : Value} {ps : List Pr} {qs : List M3} {M : Nat}, OwnPs W' base M v ps qs → OwnPs (W'.setCell ⟨gD, i * 3 + 2, none⟩ v1) base M v ps qs := fun {v ps qs M} hq => hq.chg kS (Nat.le_refl _) (fun g hg hs => by
    obtain ⟨cs, hc⟩ := own_blk hq.row hg
    subst hs
    exact Blk.ne_ hc hcD (by decide) rfl) (fun g hs cs hc => by
    subst hs
    exact Blk.ne_ hc hcD (by decide) rfl)
  refine ⟨?_, by simp [h.len], fun j hj => ?_, fun a b g ha hb' hab => ?_⟩
  · rw [List.length_modify, ← flatV_set ms v1 i him]
    exact hD2
  · rw [List.length_modify] at hj
    rw [(mC_set him v1 j).1, (mC_set him v1 j).2.1, (mC_set him v1 j).2.2, (uP_mod _ hi j).1, (uP_mod _ hi j).2.1, (uP_mod _ hi j).2.2]
    obtain ⟨e1, e2, qs, hq⟩ := h.at_ j hj
    by_cases hji : j = i
    · subst hji
      rw [if_pos rfl, if_pos rfl]
      exact ⟨e1, e2, _, hNo (hp.snoc k hr (fun g hg => by
        have := (hr.lt g hg).2
        exact this) hb)⟩
    · rw [if_neg hji, if_neg hji]
      refine ⟨e1, e2, qs, hNo (hq.chg k hNW (fun g hg hs => ?_) (fun g hs cs hc => ?_))⟩
      · exact h.apart j i g hj hi hji hg hs
      · obtain ⟨cs', hc'⟩ := own_blk hp.row hs
        exact Blk.ne_ hc hc' (by decide) rfl
  · rw [List.length_modify] at ha hb'
    rw [(mC_set him v1 a).2.2, (mC_set him v1 b).2.2]
    obtain ⟨_, _, qa, hqa⟩ := h.at_ a ha
    obtain ⟨_, _, qb, hqb⟩ := h.at_ b hb'
    by_cases hai : a = i
    · subst hai
      rw [if_pos rfl, if_neg (Ne.symm hab)]
      intro hg hg2
      rcases hat with hat | hat
      · exact h.apart a b g ha hb' hab (by rw [← hat]; exact hg) hg2
      · rw [hat] at hg
        injection hg with hg
        have := hqb.lt g hg2
        omega
    · rw [if_neg hai]
      by_cases hbi : b = i
      · subst hbi
        rw [if_pos rfl]
        intro hg hg2
        rcases hat with hat | hat
        · exact h.apart a b g ha hb' hab hg (by rw [← hat]; exact hg2)
        · rw [hat] at hg2
          injection hg2 with hg2
          have := hqa.lt g hg
          omega
      · rw [if_neg hbi]
        exact h.apart a b g ha hb' hab
/-- a slice that reads as duties -/
def RdDu (W : World) (A : Option Addr) (ds : List Du) : Prop := 0 < ds.length → ∃ g, A = some ⟨g, 0, none⟩ ∧ g < W.heap.size ∧ ∀ i, i < ds.length → W.cell? ⟨g, i * 3, none⟩ = some (.int .i64 (uS ds i)) ∧ W.cell? ⟨g, i * 3 + 1, none⟩ = some (.int .i64 (uD ds i)) ∧
  ∃ B c, W.cell? ⟨g, i * 3 + 2, none⟩ = some (.slice B (uP ds i).length c) ∧ RdPr W B (uP ds i) ∧ (uP ds i).length ≤ c ∧ c ≤ 9223372036854775807
theorem OwnPs.form {W : World} {base N : Nat} {v : Value} {ps : List Pr} {ms : List M3} (h : OwnPs W base N v ps ms) : ∃ A c, v = .slice A ps.length c ∧ RdPr W A ps ∧ ps.length ≤ c ∧ c ≤ 9223372036854775807 := by
  obtain ⟨A, c, rfl⟩ := own_slice h.row
  refine ⟨A, c, rfl, fun hp => ?_, own_cap h.row⟩
  obtain ⟨g, cap, hv, _, hlt⟩ := h.row.form hp
  injection hv with hA _ _
  refine ⟨g, 0, hA, hlt, fun i hi => ?_⟩
  obtain ⟨e1, e2, B, cb, e3, hr⟩ := h.at_ i hi
  have hc := h.row.cells (g := g) (by rw [hA]; rfl)
  have hf := flatV_get ms i (by rw [h.len]; exact hi)
  have a0 := hc _ _ hf.1
  have a1 := hc _ _ hf.2.1
  have a2 := hc _ _ hf.2.2
  rw [Go.WideShapes.add_plain, Nat.zero_add] at a0 a1 a2
  rw [e1] at a0
  rw [e2] at a1
  rw [e3] at a2
  exact ⟨B, (pB ps i).length, cb, by rw [Nat.zero_add]; exact a0, by rw [Nat.zero_add]; exact a1, by rw [Nat.zero_add]; exact a2, own_rd2 hr, rfl, own_cap hr⟩
theorem DuO.form {W : World} {base N : Nat} {v : Value} {ds : List Du} {ms : List M3} (h : DuO W base N v ds ms) : ∃ A c, v = .slice A ds.length c ∧ RdDu W A ds ∧ ds.length ≤ c ∧ c ≤ 9223372036854775807 := by
  obtain ⟨A, c, rfl⟩ := own_slice h.row
  refine ⟨A, c, rfl, fun hp => ?_, own_cap h.row⟩
  obtain ⟨g, cap, hv, _, hlt⟩ := h.row.form hp
  injection hv with hA _ _
  refine ⟨g, hA, hlt, fun i hi => ?_⟩
  obtain ⟨e1, e2, ps, hps⟩ := h.at_ i hi
  have hc := h.row.cells (g := g) (by rw [hA]; rfl)
  have hf := flatV_get ms i (by rw [h.len]; exact hi)
  have a0 := hc _ _ hf.1
  have a1 := hc _ _ hf.2.1
  have a2 := hc _ _ hf.2.2
  rw [Go.WideShapes.add_plain, Nat.zero_add] at a0 a1 a2
  rw [e1] at a0
  rw [e2] at a1
  obtain ⟨B, cb, e3, h3, h4⟩ := hps.form
  rw [e3] at a2
  exact ⟨a0, a1, B, cb, a2, h3, h4⟩
end Go.Proofs.Ytagkdkkpgcolkaa
