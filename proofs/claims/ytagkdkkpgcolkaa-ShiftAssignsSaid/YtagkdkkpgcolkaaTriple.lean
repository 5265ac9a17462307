/-
  Words for memory: a slice of structs of three numbers; append to a slice of the call's own. No program in sight; no conditions.
-/
import Derived.Test.YtagkdkkpgcolkaaKit
import Derived.Deep.AppendLies
import Derived.Deep.DeepMust
import Derived.Maps.AppendAt
namespace Go.Proofs.Ytagkdkkpgcolkaa
open Go.RowKit
set_option linter.unusedSimpArgs false

abbrev T3 := Int × Int × Int
def tA (l : List T3) (i : Nat) : Int := (l.getD i (0, 0, 0)).1
def tB (l : List T3) (i : Nat) : Int := (l.getD i (0, 0, 0)).2.1
def tC (l : List T3) (i : Nat) : Int := (l.getD i (0, 0, 0)).2.2
def triCell (l : List T3) (i j : Nat) : Value := .int .i64 (if j = 0 then tA l i else if j = 1 then tB l i else tC l i)
def RdT (w : World) (B : Nat) (A : Option Addr) (l : List T3) : Prop := Rd w B 3 A l.length (triCell l)
theorem RdT.below {w w' : World} {B : Nat} {A : Option Addr} {l : List T3} (h : RdT w B A l) (hb : Below B w w') : RdT w' B A l := Rd.below h hb
theorem RdT.all {w : World} {B : Nat} {A : Option Addr} {l : List T3} (h : RdT w B A l) (hi : 0 < l.length) :
    ∃ b off, A = some ⟨b, off, none⟩ ∧ b < B ∧ (∀ i, i < l.length → w.cell? ⟨b, off + i * 3, none⟩ = some (.int .i64 (tA l i))) ∧ (∀ i, i < l.length → w.cell? ⟨b, off + i * 3 + 1, none⟩ = some (.int .i64 (tB l i))) ∧ ∀ i, i < l.length → w.cell? ⟨b, off + i * 3 + 2, none⟩ = some (.int .i64 (tC l i)) := by
  obtain ⟨b, off, e, hb, hc⟩ := h (by omega)
  exact ⟨b, off, e, hb, fun i hi => by simpa [triCell] using hc i 0 hi (by omega), fun i hi => by simpa [triCell] using hc i 1 hi (by omega), fun i hi => by simpa [triCell] using hc i 2 hi (by omega)⟩
def flat3 (l : List T3) : List Value := l.flatMap fun p => [.int .i64 p.1, .int .i64 p.2.1, .int .i64 p.2.2]
theorem flat3_snoc (l : List T3) (x : T3) : flat3 (l ++ [x]) = flat3 l ++ [.int .i64 x.1, .int .i64 x.2.1, .int .i64 x.2.2] := by simp [flat3]
theorem flat3_cons (l : List T3) (x : T3) : flat3 (x :: l) = .int .i64 x.1 :: .int .i64 x.2.1 :: .int .i64 x.2.2 :: flat3 l := by simp [flat3]
theorem flat3_get (l : List T3) : ∀ i, i < l.length → (flat3 l)[i * 3]? = some (.int .i64 (tA l i)) ∧ (flat3 l)[i * 3 + 1]? = some (.int .i64 (tB l i)) ∧ (flat3 l)[i * 3 + 2]? = some (.int .i64 (tC l i)) := by
  induction l with
  | nil => intro i h; simp at h
  | cons a t ih =>
    intro i h
    cases i with
    | zero => simp [flat3_cons, tA, tB, tC]
    | succ i =>
      have := ih i (by simpa using h)
      rw [flat3_cons]
      have e1 : (i + 1) * 3 = i * 3 + 1 + 1 + 1 := by omega
      rw [e1]
      simpa [tA, tB, tC] using this
theorem own_slice {w : World} {base : Nat} {e : TypeId} {size : Nat} {v : Value} {n : Nat} {xs : List Value} (h : w.ownsRow base e size v n xs) : ∃ A c, v = .slice A n c := by
  rcases h.2 with ⟨rfl, rfl⟩ | ⟨g, cap, cur, rfl, _⟩
  · exact ⟨none, 0, rfl⟩
  · exact ⟨_, _, rfl⟩
theorem own_rd3 {w : World} {base : Nat} {e : TypeId} {A : Option Addr} {c : Nat} {l : List T3} (h : w.ownsRow base e 3 (.slice A l.length c) l.length (flat3 l)) : RdT w w.heap.size A l := by
  intro hn
  obtain ⟨g, cap, hv, _, hlt⟩ := h.form hn
  injection hv with hA _ _
  subst hA
  refine ⟨g, 0, rfl, hlt, fun i j hi hj => ?_⟩
  have hc := h.cells (g := g) rfl
  have hg := flat3_get l i hi
  rcases (show j = 0 ∨ j = 1 ∨ j = 2 by omega) with rfl | rfl | rfl
  · have := hc _ _ hg.1
    simpa [triCell, Go.WideShapes.add_plain] using this
  · have := hc _ _ hg.2.1
    simpa [triCell, Go.WideShapes.add_plain] using this
  · have := hc _ _ hg.2.2
    simpa [triCell, Go.WideShapes.add_plain] using this
theorem own_rdI {w : World} {base : Nat} {e : TypeId} {A : Option Addr} {c : Nat} {l : List Int} (h : w.ownsRow base e 1 (.slice A l.length c) l.length (l.map (Value.int .i64))) : RdI w w.heap.size A l := by
  intro hn
  obtain ⟨g, cap, hv, _, hlt⟩ := h.form hn
  injection hv with hA _ _
  subst hA
  refine ⟨g, 0, rfl, hlt, fun i j hi hj => ?_⟩
  have hc := h.cells (g := g) rfl
  have hj0 : j = 0 := by omega
  subst hj0
  have := hc i (.int .i64 (at1 l i)) (by simp [at1, hi])
  simpa [Go.WideShapes.add_plain] using this
theorem wpList_append_sl {P : Program} (w : World) {ops : Array Oper} {rest : List Oper} {o : Oper} {a : Act} {Q : Exit → Act → World → Prop} (hgd : o.guard = none) (s x : Operand) (t : TypeId)
    (ho : o.op = .call { callee := .builtin .append, args := #[s, x], argTypes := #[t, t] })
    (base : Nat) (e : TypeId) (i : TypeInfo) (z : Value) (size bytes : Nat) (ht : P.underlying t = some (.slice e)) (hi : P.info? e = some i) (hz : i.zero = some z)
    (hsize : i.size = size) (hby : i.bytes = bytes) (hzs : z.cells.size = size) (hsz : 0 < size)
    (A : Option Addr) (c n : Nat) (xs : List Value) (hs : a.eval s = .slice A n c) (hown : w.ownsRow base e size (.slice A n c) n xs)
    (ad : Addr) (m c2 : Nat) (news : List Value) (hx : a.eval x = .slice (some ad) m c2) (hl : news.length = m * size) (hnews : ∀ j u, news[j]? = some u → w.cell? (ad.add j) = some u) (h1 : ∀ u ∈ news, u.oneCell' = true)
    (h63 : n + m ≤ maxLen) (hbytes : (n + m) * bytes ≤ 140737488355328) (hbase : base ≤ w.heap.size)
    (h : ∀ A' c' w', w'.ownsRow base e size (.slice A' (n + m) c') (n + m) (xs ++ news) → Below base w w' → wpList P ops Q rest (a.put o.dst (.slice A' (n + m) c')) w') : wpList P ops Q (o :: rest) a w :=
  wpList_append_own w hgd s x t ho base e i z size bytes ht hi hz hsize hby hzs hsz _ n xs hs hown ad m c2 news hx hl hnews h1 h63 hbytes hbase (fun v' w' h2 h3 _ => by
    obtain ⟨A', c', rfl⟩ := own_slice h2
    exact h A' c' w' h2 ((Below.refl base w).grown h3 hbase (fun k hk => (hown.lt k hk).1)))
theorem wpList_append_sk {P : Program} (w : World) {ops : Array Oper} {rest : List Oper} {o : Oper} {a : Act} {Q : Exit → Act → World → Prop} (hgd : o.guard = none) (s x : Operand) (t : TypeId)
    (ho : o.op = .call { callee := .builtin .append, args := #[s, x], argTypes := #[t, t] })
    (base : Nat) (e : TypeId) (i : TypeInfo) (z : Value) (size bytes : Nat) (ht : P.underlying t = some (.slice e)) (hi : P.info? e = some i) (hz : i.zero = some z)
    (hsize : i.size = size) (hby : i.bytes = bytes) (hzs : z.cells.size = size) (hsz : 0 < size)
    (A : Option Addr) (c n : Nat) (xs : List Value) (hs : a.eval s = .slice A n c) (hown : w.ownsRow base e size (.slice A n c) n xs)
    (ad : Addr) (m c2 : Nat) (news : List Value) (hx : a.eval x = .slice (some ad) m c2) (hl : news.length = m * size) (hnews : ∀ j u, news[j]? = some u → w.cell? (ad.add j) = some u) (h1 : ∀ u ∈ news, u.oneCell' = true)
    (h63 : n + m ≤ maxLen) (hbytes : (n + m) * bytes ≤ 140737488355328) (hbase : base ≤ w.heap.size)
    (h : ∀ A' c' w', w'.ownsRow base e size (.slice A' (n + m) c') (n + m) (xs ++ news) → Below base w w' → (∀ b o, b < w.heap.size → some b ≠ (Value.slice A n c).ownBlock → w'.cell? ⟨b, o, none⟩ = w.cell? ⟨b, o, none⟩) → wpList P ops Q rest (a.put o.dst (.slice A' (n + m) c')) w') : wpList P ops Q (o :: rest) a w :=
  wpList_append_own w hgd s x t ho base e i z size bytes ht hi hz hsize hby hzs hsz _ n xs hs hown ad m c2 news hx hl hnews h1 h63 hbytes hbase (fun v' w' h2 h3 _ => by
    obtain ⟨A', c', rfl⟩ := own_slice h2
    exact h A' c' w' h2 ((Below.refl base w).grown h3 hbase (fun k hk => (hown.lt k hk).1)) (fun b o hb hne => World.cell?_of_block (h3.block b hb hne)))
theorem cells_at (w : World) (g : Nat) (cs : List Value) (t : TypeId) (hg : g = w.heap.size) : ∀ j u, cs[j]? = some u → (w.alloc (.cells cs.toArray t)).cell? ((⟨g, 0, none⟩ : Addr).add j) = some u := by
  subst hg
  intro j u h
  rw [Go.WideShapes.add_plain, Nat.zero_add, (Blk.new w t cs.toArray).cell j]
  simpa using h
theorem ints_one (l : List Int) : ∀ u ∈ l.map (Value.int .i64), u.oneCell' = true := by
  intro u hu
  simp at hu
  obtain ⟨x, _, rfl⟩ := hu
  rfl
end Go.Proofs.Ytagkdkkpgcolkaa
