/-
  Plain mathematics of scaled schedules: of brackets with one beginning the last one stays. No program in sight; no conditions.
-/
import Derived.Test.YtcincmlpegnaiaaKit
import Derived.Deep.AppendLies
import Derived.Deep.DeepMust
import Derived.Maps.AppendAt
namespace Go.Proofs.Ytcincmlpegnaiaa

def dd : List (Int × Int) → List (Int × Int)
  | [] => []
  | [a] => [a]
  | a :: b :: t => if a.1 = b.1 then dd (b :: t) else a :: dd (b :: t)
theorem dd_ne (b : Int × Int) (t : List (Int × Int)) : dd (b :: t) ≠ [] := by
  induction t generalizing b with
  | nil => simp [dd]
  | cons c t ih =>
    simp only [dd]
    split
    · exact ih c
    · simp
theorem dd_snoc (l : List (Int × Int)) (x : Int × Int) : dd (l ++ [x]) = (if l.getLast?.map (·.1) = some x.1 then (dd l).dropLast else dd l) ++ [x] := by
  induction l with
  | nil => simp [dd]
  | cons a t ih =>
    cases t with
    | nil =>
      by_cases h : a.1 = x.1 <;> simp [dd, h]
    | cons b t =>
      have hl : (a :: b :: t).getLast? = (b :: t).getLast? := by simp [List.getLast?_cons_cons]
      rw [hl]
      show dd (a :: b :: (t ++ [x])) = _
      have e1 : dd (a :: b :: (t ++ [x])) = if a.1 = b.1 then dd (b :: (t ++ [x])) else a :: dd (b :: (t ++ [x])) := rfl
      have e2 : dd (a :: b :: t) = if a.1 = b.1 then dd (b :: t) else a :: dd (b :: t) := rfl
      have e3 : b :: (t ++ [x]) = (b :: t) ++ [x] := rfl
      rw [e1, e2, e3, ih]
      by_cases h : a.1 = b.1
      · rw [if_pos h, if_pos h]
      · rw [if_neg h, if_neg h]
        split
        · rw [List.dropLast_cons_of_ne_nil (dd_ne b t)]; rfl
        · rfl

/-- a schedule's beginnings scaled -/
def sc (l : List (Int × Int)) (num den : Int) : List (Int × Int) := l.map fun p => (p.1 * num / den, p.2)
def scAt (l : List (Int × Int)) (num den : Int) (i : Nat) : Int × Int := (fst2 l i * num / den, snd2 l i)
theorem sc_length (l : List (Int × Int)) (num den : Int) : (sc l num den).length = l.length := by simp [sc]
theorem sc_get (l : List (Int × Int)) (num den : Int) (i : Nat) (h : i < l.length) : (sc l num den)[i]? = some (scAt l num den i) := by
  simp [sc, scAt, fst2, snd2, h]
/-- what the program has after k rounds -/
def scTo (l : List (Int × Int)) (num den : Int) (k : Nat) : List (Int × Int) := dd ((sc l num den).take k)
theorem scTo_zero (l : List (Int × Int)) (num den : Int) : scTo l num den 0 = [] := by simp [scTo, dd]
theorem scTo_all (l : List (Int × Int)) (num den : Int) : scTo l num den l.length = dd (sc l num den) := by
  unfold scTo; rw [List.take_of_length_le (by rw [sc_length]; exact Nat.le_refl _)]
theorem take_sc (l : List (Int × Int)) (num den : Int) (k : Nat) (h : k < l.length) : (sc l num den).take (k + 1) = (sc l num den).take k ++ [scAt l num den k] := by
  rw [List.take_add_one, sc_get l num den k h]; rfl
/-- what the reference has after k rounds -/
def rsTo (l : List (Int × Int)) (num den : Int) : Nat → List (Int × Int)
  | 0 => []
  | k + 1 => if k + 1 < l.length ∧ (scAt l num den (k + 1)).1 = (scAt l num den k).1 then rsTo l num den k else rsTo l num den k ++ [scAt l num den k]
theorem scTo_first (l : List (Int × Int)) (num den : Int) (h : 0 < l.length) : scTo l num den 1 = [scAt l num den 0] := by
  unfold scTo; rw [take_sc l num den 0 h]; simp [dd]
theorem sc_last (l : List (Int × Int)) (num den : Int) (k : Nat) (h : k < l.length) : ((sc l num den).take (k + 1)).getLast? = some (scAt l num den k) := by
  rw [take_sc l num den k h]; simp
/-- the form of the program's list behind a round -/
theorem scTo_form (l : List (Int × Int)) (num den : Int) : ∀ k, k < l.length → scTo l num den (k + 1) = rsTo l num den k ++ [scAt l num den k]
  | 0, h => by rw [scTo_first l num den h]; rfl
  | k + 1, h => by
    have ih := scTo_form l num den k (by omega)
    have e : scTo l num den (k + 1 + 1) = (if (scAt l num den k).1 = (scAt l num den (k + 1)).1 then (scTo l num den (k + 1)).dropLast else scTo l num den (k + 1)) ++ [scAt l num den (k + 1)] := by
      unfold scTo
      rw [take_sc l num den (k + 1) h, dd_snoc, sc_last l num den k (by omega)]
      simp
    rw [e, ih]
    show _ = (if k + 1 < l.length ∧ (scAt l num den (k + 1)).1 = (scAt l num den k).1 then rsTo l num den k else rsTo l num den k ++ [scAt l num den k]) ++ _
    by_cases hc : (scAt l num den k).1 = (scAt l num den (k + 1)).1
    · rw [if_pos hc, if_pos ⟨h, hc.symm⟩, List.dropLast_concat]
    · rw [if_neg hc, if_neg (fun h' => hc h'.2.symm)]
theorem scTo_same {l : List (Int × Int)} {num den : Int} {k : Nat} (h : k + 1 < l.length) (hc : (scAt l num den (k + 1)).1 = (scAt l num den k).1) : scTo l num den (k + 1 + 1) = rsTo l num den k ++ [scAt l num den (k + 1)] := by
  rw [scTo_form l num den (k + 1) h]
  show (if _ then _ else _) ++ _ = _
  rw [if_pos ⟨h, hc⟩]
theorem scTo_other {l : List (Int × Int)} {num den : Int} {k : Nat} (h : k + 1 < l.length) (hc : (scAt l num den (k + 1)).1 ≠ (scAt l num den k).1) : scTo l num den (k + 1 + 1) = scTo l num den (k + 1) ++ [scAt l num den (k + 1)] := by
  rw [scTo_form l num den (k + 1) h, scTo_form l num den k (by omega)]
  show (if _ then _ else _) ++ _ = _
  rw [if_neg (fun h' => hc h'.2)]
theorem rsTo_all (l : List (Int × Int)) (num den : Int) (h : 0 < l.length) : rsTo l num den l.length = dd (sc l num den) := by
  obtain ⟨k, hk⟩ : ∃ k, l.length = k + 1 := ⟨l.length - 1, by omega⟩
  rw [← scTo_all l num den, hk, scTo_form l num den k (by omega)]
  show (if _ then _ else _) = _
  rw [if_neg (by omega)]
theorem rsTo_skip {l : List (Int × Int)} {num den : Int} {k : Nat} (h : k + 1 < l.length) (hc : fst2 l (k + 1) * num / den = fst2 l k * num / den) : rsTo l num den (k + 1) = rsTo l num den k := by
  show (if _ then _ else _) = _
  rw [if_pos ⟨h, hc⟩]
theorem rsTo_take {l : List (Int × Int)} {num den : Int} {k : Nat} (h : ¬ (k + 1 < l.length ∧ fst2 l (k + 1) * num / den = fst2 l k * num / den)) : rsTo l num den (k + 1) = rsTo l num den k ++ [scAt l num den k] := by
  exact if_neg h
theorem rsTo_len (l : List (Int × Int)) (num den : Int) : ∀ k, (rsTo l num den k).length ≤ k
  | 0 => by simp [rsTo]
  | k + 1 => by
    have := rsTo_len l num den k
    simp only [rsTo]
    split
    · omega
    · simp; omega

/-- pairs as cells -/
def flat (l : List (Int × Int)) : List Value := l.flatMap fun p => [.int .i64 p.1, .int .i64 p.2]
theorem flat_nil : flat [] = [] := rfl
theorem flat_length (l : List (Int × Int)) : (flat l).length = l.length * 2 := by
  induction l with
  | nil => rfl
  | cons a t ih => simp only [flat, List.flatMap_cons, List.length_append] at *; rw [ih]; simp; omega
theorem flat_snoc (l : List (Int × Int)) (x : Int × Int) : flat (l ++ [x]) = flat l ++ [.int .i64 x.1, .int .i64 x.2] := by simp [flat]
theorem flat_cons (l : List (Int × Int)) (x : Int × Int) : flat (x :: l) = .int .i64 x.1 :: .int .i64 x.2 :: flat l := by simp [flat]
theorem flat_get (l : List (Int × Int)) : ∀ i, i < l.length → (flat l)[i * 2]? = some (.int .i64 (fst2 l i)) ∧ (flat l)[i * 2 + 1]? = some (.int .i64 (snd2 l i)) := by
  induction l with
  | nil => intro i h; simp at h
  | cons a t ih =>
    intro i h
    cases i with
    | zero => simp [flat_cons, fst2, snd2]
    | succ i =>
      have := ih i (by simpa using h)
      rw [flat_cons]
      have e1 : (i + 1) * 2 = i * 2 + 1 + 1 := by omega
      rw [e1]
      simpa [fst2, snd2] using this
theorem flat_one (l : List (Int × Int)) : ∀ u ∈ flat l, u.oneCell' = true := by
  intro u hu
  simp only [flat, List.mem_flatMap] at hu
  obtain ⟨p, _, hp⟩ := hu
  simp at hp
  rcases hp with rfl | rfl <;> rfl
theorem flat_set (l : List (Int × Int)) (y : Int × Int) (a b : Int) : ((flat (l ++ [y])).set (l.length * 2) (.int .i64 a)).set (l.length * 2 + 1) (.int .i64 b) = flat (l ++ [(a, b)]) := by
  rw [flat_snoc, flat_snoc]
  have h := flat_length l
  rw [← h, List.set_append_right _ _ (Nat.le_refl _), List.set_append_right _ _ (by omega)]
  simp
theorem fst2_snoc (l : List (Int × Int)) (x : Int × Int) : fst2 (l ++ [x]) l.length = x.1 := by simp [fst2]
theorem snd2_snoc (l : List (Int × Int)) (x : Int × Int) : snd2 (l ++ [x]) l.length = x.2 := by simp [snd2]

section
open Go.RowKit
theorem own_slice {w : World} {base : Nat} {e : TypeId} {size : Nat} {v : Value} {n : Nat} {xs : List Value} (h : w.ownsRow base e size v n xs) : ∃ A c, v = .slice A n c := by
  rcases h.2 with ⟨rfl, rfl⟩ | ⟨g, cap, cur, rfl, _⟩
  · exact ⟨none, 0, rfl⟩
  · exact ⟨_, _, rfl⟩
theorem own_rd {w : World} {base : Nat} {e : TypeId} {A : Option Addr} {c : Nat} {l : List (Int × Int)} (h : w.ownsRow base e 2 (.slice A l.length c) l.length (flat l)) : RdP w w.heap.size A l := by
  intro hn
  obtain ⟨g, cap, hv, _, hlt⟩ := h.form hn
  injection hv with hA _ _
  subst hA
  refine ⟨g, 0, rfl, hlt, fun i j hi hj => ?_⟩
  have hc := h.cells (g := g) rfl
  have hg := flat_get l i hi
  rcases (show j = 0 ∨ j = 1 by omega) with rfl | rfl
  · have := hc (i * 2) _ hg.1
    simpa [pairCell, Go.WideShapes.add_plain] using this
  · have := hc (i * 2 + 1) _ hg.2
    simpa [pairCell, Go.WideShapes.add_plain] using this

/-- append to a slice of the call's own, the new value written as a slice -/
theorem wpList_append_sl {P : Program} (w : World) {ops : Array Oper} {rest : List Oper} {o : Oper} {a : Act} {Q : Exit → Act → World → Prop} (hgd : o.guard = none) (s x : Operand) (t : TypeId)
    (ho : o.op = .call { callee := .builtin .append, args := #[s, x], argTypes := #[t, t] })
    (base : Nat) (e : TypeId) (i : TypeInfo) (z : Value) (size bytes : Nat) (ht : P.underlying t = some (.slice e)) (hi : P.info? e = some i) (hz : i.zero = some z)
    (hsize : i.size = size) (hby : i.bytes = bytes) (hzs : z.cells.size = size) (hsz : 0 < size)
    (A : Option Addr) (c n : Nat) (xs : List Value) (hs : a.eval s = .slice A n c) (hown : w.ownsRow base e size (.slice A n c) n xs)
    (ad : Addr) (m c2 : Nat) (news : List Value) (hx : a.eval x = .slice (some ad) m c2) (hl : news.length = m * size) (hnews : ∀ j u, news[j]? = some u → w.cell? (ad.add j) = some u) (h1 : ∀ u ∈ news, u.oneCell' = true)
    (h63 : n + m ≤ maxLen) (hbytes : (n + m) * bytes ≤ 140737488355328) (hbase : base ≤ w.heap.size)
    (h : ∀ A' c' w', w'.ownsRow base e size (.slice A' (n + m) c') (n + m) (xs ++ news) → Below base w w' → wpList P ops Q rest (a.put o.dst (.slice A' (n + m) c')) w') : wpList P ops Q (o :: rest) a w :=
  wpList_append_own w hgd s x t ho base e i z size bytes ht hi hz hsize hby hzs hsz _ n xs hs hown ad m c2 news hx hl hnews h1 h63 hbytes hbase (fun v' w' h2 h3 _ => by
    obtain ⟨A', c', rfl⟩ := own_slice h2
    exact h A' c' w' h2 ((Below.refl base w).grown h3 hbase (fun k hk => (hown.lt k hk).1)))
theorem cells_new (w : World) (cs : List Value) (t : TypeId) : ∀ j u, cs[j]? = some u → (w.alloc (.cells cs.toArray t)).cell? ((⟨w.heap.size, 0, none⟩ : Addr).add j) = some u := by
  intro j u h
  rw [Go.WideShapes.add_plain, Nat.zero_add, (Blk.new w t cs.toArray).cell j]
  simpa using h
theorem cells_at (w : World) (g : Nat) (cs : List Value) (t : TypeId) (hg : g = w.heap.size) : ∀ j u, cs[j]? = some u → (w.alloc (.cells cs.toArray t)).cell? ((⟨g, 0, none⟩ : Addr).add j) = some u := by
  subst hg
  exact cells_new w cs t
end
end Go.Proofs.Ytcincmlpegnaiaa
