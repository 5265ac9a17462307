/-
  append of a slice that reads as a list (nil let in) to a row of the call's own. No program in sight; no conditions.
-/
import Derived.Test.YtagkdkkpgcolkaaKit
import Derived.Deep.AppendLies
import Derived.Maps.AppendAt
import Derived.OwnWalk
import Derived.Laws.OwnMore
namespace Go.Proofs.Ytagkdkkpgcolkaa
open Go.RowKit
set_option linter.unusedSimpArgs false

/-- what a source offers: its cells in order, if it has any -/
def Src (w : World) (size : Nat) (A : Option Addr) (m : Nat) (news : List Value) : Prop :=
  news.length = m * size ∧ (0 < m → ∃ ad, A = some ad ∧ ∀ j u, news[j]? = some u → w.cell? (ad.add j) = some u)
theorem append_src {P : Program} (w : World) (base : Nat) (t ty e : TypeId) (i : TypeInfo) (z : Value) (size bytes : Nat) (ht : P.underlying t = some (.slice e)) (hi : P.info? e = some i) (hz : i.zero = some z)
    (hsize : i.size = size) (hby : i.bytes = bytes) (hzs : z.cells.size = size) (hsz : 0 < size) (v : Value) (n : Nat) (xs : List Value) (hown : w.ownsRow base e size v n xs)
    (A : Option Addr) (m c : Nat) (news : List Value) (hs : Src w size A m news) (h1 : ∀ u ∈ news, u.oneCell' = true) (h63 : n + m ≤ maxLen) (hbytes : (n + m) * bytes ≤ 140737488355328) (hbase : base ≤ w.heap.size) :
    ∃ v' w', (Builtin.append_ #[t, t] ty #[v, .slice A m c]).run P w = .ok v' w' ∧ w'.ownsRow base e size v' (n + m) (xs ++ news) ∧ w.grownBy w' v.ownBlock := by
  cases A with
  | some ad =>
    have hc : ∀ j u, news[j]? = some u → w.cell? (ad.add j) = some u := by
      intro j u hu
      by_cases h0 : 0 < m
      · obtain ⟨ad', he, hcell⟩ := hs.2 h0
        injection he with he
        subst he
        exact hcell j u hu
      · have hl : news.length = 0 := by rw [hs.1, show m = 0 by omega]; simp
        rw [List.eq_nil_of_length_eq_zero hl] at hu
        simp at hu
    obtain ⟨v', w', r1, r2, r3, _, _⟩ := run_append_own_at (P := P) w base t ty e i z size bytes ht hi hz hsize hby hzs hsz v n xs hown ad m c news hs.1 hc h1 h63 hbytes hbase
    exact ⟨v', w', r1, r2, r3⟩
  | none =>
    have hm : m = 0 := by
      by_cases h0 : 0 < m
      · obtain ⟨ad', he, _⟩ := hs.2 h0
        cases he
      · omega
    subst hm
    have hn : news = [] := List.eq_nil_of_length_eq_zero (by simpa using hs.1)
    subst hn
    refine ⟨v, w, ?_, by simpa using hown, World.grownBy.refl w _⟩
    rcases hown.2 with ⟨rfl, rfl⟩ | ⟨g, cap, cur, rfl, _, _, hnc, _⟩
    · simp [Builtin.append_, run_underlying ht, sizeOf, typeInfo, hi, Builtin.lenOf, Builtin.firstCells]
    · simp [Builtin.append_, run_underlying ht, sizeOf, typeInfo, hi, Builtin.lenOf, Builtin.firstCells, hnc, storeCells]
theorem wpList_append_src {P : Program} (w : World) {ops : Array Oper} {rest : List Oper} {o : Oper} {a : Act} {Q : Exit → Act → World → Prop} (hgd : o.guard = none) (s x : Operand) (t : TypeId)
    (ho : o.op = .call { callee := .builtin .append, args := #[s, x], argTypes := #[t, t] })
    (base : Nat) (e : TypeId) (i : TypeInfo) (z : Value) (size bytes : Nat) (ht : P.underlying t = some (.slice e)) (hi : P.info? e = some i) (hz : i.zero = some z)
    (hsize : i.size = size) (hby : i.bytes = bytes) (hzs : z.cells.size = size) (hsz : 0 < size)
    (A0 : Option Addr) (c0 n : Nat) (xs : List Value) (hs : a.eval s = .slice A0 n c0) (hown : w.ownsRow base e size (.slice A0 n c0) n xs)
    (A : Option Addr) (m c : Nat) (news : List Value) (hx : a.eval x = .slice A m c) (hsrc : Src w size A m news) (h1 : ∀ u ∈ news, u.oneCell' = true)
    (h63 : n + m ≤ maxLen) (hbytes : (n + m) * bytes ≤ 140737488355328) (hbase : base ≤ w.heap.size)
    (h : ∀ A' c' w', w'.ownsRow base e size (.slice A' (n + m) c') (n + m) (xs ++ news) → Below base w w' → (∀ b o, b < w.heap.size → some b ≠ (Value.slice A0 n c0).ownBlock → w'.cell? ⟨b, o, none⟩ = w.cell? ⟨b, o, none⟩) → wpList P ops Q rest (a.put o.dst (.slice A' (n + m) c')) w') : wpList P ops Q (o :: rest) a w :=
  wpList_plain hgd fun _ hK => by
    obtain ⟨v', w', r1, r2, r3⟩ := append_src (P := P) w base t o.type e i z size bytes ht hi hz hsize hby hzs hsz _ n xs hown A m c news hsrc h1 h63 hbytes hbase
    unfold Oper.wp execOp
    simp only [ho, resolve, invoke, builtin, Sem.run_bind, Sem.run_pure, Result.andThen_ok, List.map_toArray, List.map_cons, List.map_nil, hs, hx, r1]
    refine hK _ _ ?_
    have hv : ∃ A' c', v' = .slice A' (n + m) c' := by
      rcases r2.2 with ⟨e1, e2⟩ | ⟨g, cap, cur, e1, _⟩
      · exact ⟨none, 0, by rw [e1, e2]⟩
      · exact ⟨_, _, e1⟩
    obtain ⟨A', c', rfl⟩ := hv
    exact h A' c' w' r2 ((Below.refl base w).grown r3 hbase (fun k hk => (hown.lt k hk).1)) (fun b o hb hne => World.cell?_of_block (r3.block b hb hne))
theorem src_rd {w : World} {B size n : Nat} {A : Option Addr} {f : Nat → Nat → Value} (news : List Value) (hl : news.length = n * size) (hf : ∀ i j, i < n → j < size → news[i * size + j]? = some (f i j)) (h : Rd w B size A n f) : Src w size A n news := by
  refine ⟨hl, fun h0 => ?_⟩
  obtain ⟨b, off, rfl, _, hc⟩ := h h0
  refine ⟨_, rfl, fun j u hu => ?_⟩
  have hj : j < news.length := by
    rcases Nat.lt_or_ge j news.length with h | h
    · exact h
    · rw [List.getElem?_eq_none h] at hu; cases hu
  have hs0 : 0 < size := by
    rcases Nat.eq_zero_or_pos size with h | h
    · subst h; simp at hl; rw [hl] at hj; simp at hj
    · exact h
  have h1 : j / size < n := (Nat.div_lt_iff_lt_mul hs0).2 (by omega)
  have h2 := Nat.mod_lt j hs0
  have e : j / size * size + j % size = j := Nat.div_add_mod' j size
  have h3 := hf (j / size) (j % size) h1 h2
  rw [e, hu] at h3
  rw [Go.WideShapes.add_plain]
  have h4 := hc (j / size) (j % size) h1 h2
  rw [show off + j / size * size + j % size = off + j by omega] at h4
  rw [h4, h3]
end Go.Proofs.Ytagkdkkpgcolkaa
