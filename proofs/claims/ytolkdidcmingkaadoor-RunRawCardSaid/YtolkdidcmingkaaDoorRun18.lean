/-
  Chapter 40: ref.Step: an append to an empty literal, and the copy of a run.
-/
import Derived.Test.YtolkdidcmingkaaDoorRun12
namespace Go.Proofs.YtolkdidcmingkaaDoor
open Go.RowKit
set_option linter.unusedVariables false
set_option linter.unusedSimpArgs false

/-- an empty literal at block g -/
def OwnE (w : World) (g : Nat) : Prop := w.ownsRow g 3 1 (.slice (some ⟨g, 0, none⟩) 0 0) 0 []
theorem ownE_new (w : World) : OwnE (w.alloc (.cells #[] 3)) w.heap.size := by
  unfold OwnE
  simpa using World.ownsRow_lit (base := w.heap.size) (e := 3) (size := 1) w #[] 0 (Nat.le_refl _) (by simp [maxLen]) rfl
theorem OwnE.alloc {w : World} {g : Nat} (h : OwnE w g) (o : Obj) : OwnE (w.alloc o) g := World.ownsRow.alloc h o
theorem ownE_old (w : World) (o : Obj) : OwnE ((w.alloc o).alloc (.cells #[] 3)) (w.heap.size + 1) := by
  have := ownE_new (w.alloc o)
  simpa using this
theorem run_append_cp {P : Program} (w : World) (t ty : TypeId) (i : TypeInfo) (z : Value) (ht : P.underlying t = some (.slice 3)) (hi : P.info? 3 = some i) (hz : i.zero = some z) (hsize : i.size = 1) (hby : i.bytes = 8) (hzs : z.cells.size = 1)
    (g : Nat) (A : Option Addr) (l : List Int) (c : Nat) (hl : l.length ≤ 100000) (hown : OwnE w g) (hr : RdI w w.heap.size A l) :
    ∃ A' c' w', (Builtin.append_ #[t, t] ty #[.slice (some ⟨g, 0, none⟩) 0 0, .slice A l.length c]).run P w = .ok (.slice A' l.length c') w' ∧ RdI w' w'.heap.size A' l ∧ Only g w w' ∧ (∀ b off, A' = some ⟨b, off, none⟩ → (b = g ∨ b = w.heap.size) ∧ b < w'.heap.size) := by
  have hlt : g < w.heap.size := (World.ownsRow.lt hown g rfl).2
  cases A with
  | some ad =>
    have hsrc := src_rdI hr
    have hc : ∀ j u, (l.map (Value.int .i64))[j]? = some u → w.cell? (ad.add j) = some u := by
      intro j u hu
      by_cases h0 : 0 < l.length
      · obtain ⟨ad', he, hcell⟩ := hsrc.2 h0
        injection he with he
        subst he
        exact hcell j u hu
      · rw [List.eq_nil_of_length_eq_zero (show l.length = 0 by omega)] at hu
        simp at hu
    obtain ⟨v', w', r1, r2, r3, _, r5⟩ := run_append_own_at (P := P) w g t ty 3 i z 1 8 ht hi hz hsize hby hzs (by decide) _ 0 [] hown ad l.length c (l.map (Value.int .i64)) (by simp) hc (ints_one l) (by unfold maxLen; omega) (by omega) (Nat.le_of_lt hlt)
    have hv : ∃ A' c', v' = .slice A' (0 + l.length) c' := by
      rcases r2.2 with ⟨e1, e2⟩ | ⟨g, cap, cur, e1, _⟩
      · exact ⟨none, 0, by rw [e1, e2]⟩
      · exact ⟨_, _, e1⟩
    obtain ⟨A', c', rfl⟩ := hv
    rw [Nat.zero_add] at r1 r2 r5
    refine ⟨A', c', w', r1, own_rdI (l := l) (by simpa using r2), r3, ?_⟩
    rintro b off rfl
    refine ⟨?_, (World.ownsRow.lt r2 b rfl).2⟩
    rcases r5 with r5 | r5
    · left; injection r5
    · right; injection r5
  | none =>
    have hm : l.length = 0 := by
      by_cases h0 : 0 < l.length
      · obtain ⟨b, off, he, _⟩ := hr h0
        cases he
      · omega
    obtain rfl : l = [] := List.eq_nil_of_length_eq_zero hm
    refine ⟨some ⟨g, 0, none⟩, 0, w, ?_, Rd.none_, World.grownBy.refl w _, ?_⟩
    · simp [Builtin.append_, run_underlying ht, sizeOf, typeInfo, hi, Builtin.lenOf, Builtin.firstCells, storeCells]
    · intro b off e
      injection e with e
      injection e with e
      subst e
      exact ⟨.inl rfl, hlt⟩
theorem wpList_append_cp {P : Program} (w : World) {ops : Array Oper} {rest : List Oper} {o : Oper} {a : Act} {Q : Exit → Act → World → Prop} (hgd : o.guard = none) (s x : Operand) (t : TypeId)
    (ho : o.op = .call { callee := .builtin .append, args := #[s, x], argTypes := #[t, t] })
    (i : TypeInfo) (z : Value) (ht : P.underlying t = some (.slice 3)) (hi : P.info? 3 = some i) (hz : i.zero = some z) (hsize : i.size = 1) (hby : i.bytes = 8) (hzs : z.cells.size = 1)
    (g : Nat) (hs : a.eval s = .slice (some ⟨g, 0, none⟩) 0 0) (A : Option Addr) (l : List Int) (c : Nat) (hx : a.eval x = .slice A l.length c) (hl : l.length ≤ 100000)
    (hown : OwnE w g) (hr : RdI w w.heap.size A l)
    (h : ∀ A' c' w', RdI w' w'.heap.size A' l → Only g w w' → (∀ b off, A' = some ⟨b, off, none⟩ → (b = g ∨ b = w.heap.size) ∧ b < w'.heap.size) → wpList P ops Q rest (a.put o.dst (.slice A' l.length c')) w') : wpList P ops Q (o :: rest) a w :=
  wpList_plain hgd fun _ hK => by
    obtain ⟨A', c', w', r1, r2, r3, r4⟩ := run_append_cp (P := P) w t o.type i z ht hi hz hsize hby hzs g A l c hl hown hr
    unfold Oper.wp execOp
    simp only [ho, resolve, invoke, builtin, Sem.run_bind, Sem.run_pure, Result.andThen_ok, List.map_toArray, List.map_cons, List.map_nil, hs, hx, r1]
    exact hK _ _ (h A' c' w' r2 r3 r4)
theorem step_append_cp {P : Program} (w : World) {ops : Array Oper} {o : Oper} {a : Act} {K : Act → World → Prop} {Q : Exit → Act → World → Prop} {X : Prop} (hgd : o.guard = none) (s x : Operand) (t : TypeId)
    (ho : o.op = .call { callee := .builtin .append, args := #[s, x], argTypes := #[t, t] })
    (i : TypeInfo) (z : Value) (ht : P.underlying t = some (.slice 3)) (hi : P.info? 3 = some i) (hz : i.zero = some z) (hsize : i.size = 1) (hby : i.bytes = 8) (hzs : z.cells.size = 1)
    (g : Nat) (hs : a.eval s = .slice (some ⟨g, 0, none⟩) 0 0) (A : Option Addr) (l : List Int) (c : Nat) (hx : a.eval x = .slice A l.length c) (hl : l.length ≤ 100000)
    (hown : OwnE w g) (hr : RdI w w.heap.size A l)
    (h : ∀ A' c' w', RdI w' w'.heap.size A' l → Only g w w' → (∀ b off, A' = some ⟨b, off, none⟩ → (b = g ∨ b = w.heap.size) ∧ b < w'.heap.size) → K (a.put o.dst (.slice A' l.length c')) w') : if Region.wanted o (yielded ops a.tmps) = true then Oper.wp P o a w K Q else X := by
  have hw : Region.wanted o (yielded ops a.tmps) = true := by simp [Region.wanted, hgd]
  rw [if_pos hw]
  obtain ⟨A', c', w', r1, r2, r3, r4⟩ := run_append_cp (P := P) w t o.type i z ht hi hz hsize hby hzs g A l c hl hown hr
  unfold Oper.wp execOp
  simp only [ho, resolve, invoke, builtin, Sem.run_bind, Sem.run_pure, Result.andThen_ok, List.map_toArray, List.map_cons, List.map_nil, hs, hx, r1]
  exact h A' c' w' r2 r3 r4

theorem SB.drew {w W : World} {r q : Array Value} (h : SB w r q W) : SB w r q W.drew := h.calc_ (below_drewN (Below.refl _ _) 1)
theorem SB.only {w W W' : World} {r q : Array Value} {g : Nat} (h : SB w r q W) (ho : Only g W W') (hg : w.heap.size + 2 < g) : SB w r q W' :=
  ⟨below_only h.below ho (by omega), h.b0.grown ho (by intro e; injection e; omega), h.b1.grown ho (by intro e; injection e; omega), h.b2.grown ho (by intro e; injection e; omega)⟩
theorem SN.only {w W W' : World} {r q cs : Array Value} {m g : Nat} (h : SN w r q m cs W) (ho : Only g W W') (hg : w.heap.size + 2 < g) (hne : m ≠ g) : SN w r q m cs W' := ⟨h.sb.only ho hg, h.nx.grown ho (by intro e; injection e; omega), h.lt⟩
/-- a run's copy in its variable -/
def CP (w : World) (r q : Array Value) (s : Int) (E : List Int) (c0 c1 c2 : Int) (a6 : Value) (W : World) : Prop :=
  ∃ m A' n', a6 = .pointer (some ⟨m, 0, none⟩) ∧ SN w r q m #[.int .i64 s, .slice A' E.length n', .int .i64 c0, .int .i64 c1, .int .i64 c2] W ∧ RdI W W.heap.size A' E ∧ ∀ b off, A' = some ⟨b, off, none⟩ → w.heap.size + 2 < b ∧ b ≠ m
section
variable {w W W' : World} {r q : Array Value} {s : Int} {E : List Int} {c0 c1 c2 : Int} {A' : Option Addr} {n' g m : Nat}
/-- the variable is made behind the copy -/
theorem cp_new (h : SB w r q W') (hr : RdI W' W'.heap.size A' E) (hf : ∀ b off, A' = some ⟨b, off, none⟩ → (b = g ∨ b = W.heap.size) ∧ b < W'.heap.size) (hg : w.heap.size + 2 < g) (hgw : g < W.heap.size) (hm : m = W'.heap.size) :
    CP w r q s E c0 c1 c2 (.pointer (some ⟨m, 0, none⟩)) (W'.alloc (.cells #[.int .i64 s, .slice A' E.length n', .int .i64 c0, .int .i64 c1, .int .i64 c2] 27)) := by
  subst hm
  exact ⟨_, A', n', rfl, SN.start h _, Rd.more (hr.below ((Below.refl _ _).alloc (Nat.le_refl _) _)) (by simp), fun b off e => by have h1 := hf b off e; omega⟩
/-- the variable was made before -/
theorem cp_old {v0 v1 v2 v3 v4 : Value} (h : SB w r q W') (hr : RdI W' W'.heap.size A' E) (hf : ∀ b off, A' = some ⟨b, off, none⟩ → (b = g ∨ b = W.heap.size) ∧ b < W'.heap.size) (hg : w.heap.size + 2 < g) (hgw : g < W.heap.size) (hb : Blk W' m 27 #[v0, v1, v2, v3, v4]) (hm : w.heap.size + 2 < m) (hmg : m ≠ g) (hmw : m < W.heap.size) :
    CP w r q s E c0 c1 c2 (.pointer (some ⟨m, 0, none⟩)) (put5 W' m (.int .i64 s) (.slice A' E.length n') (.int .i64 c0) (.int .i64 c1) (.int .i64 c2)) := by
  have ho := put5_only W' m (.int .i64 s) (.slice A' E.length n') (.int .i64 c0) (.int .i64 c1) (.int .i64 c2)
  exact ⟨m, A', n', rfl, ⟨h.only ho hm, blk_put5 hb _ _ _ _ _, hm⟩, rd_only hr ho (fun b off e => by have h1 := hf b off e; omega), fun b off e => by have h1 := hf b off e; omega⟩
/-- the variable, made after the literal or before it -/
theorem bo1 {W w6 : World} {t u : TypeId} {v0 v1 v2 v3 v4 : Value} (ho : Only W.heap.size ((W.alloc (.cells #[] u)).alloc (.cells #[v0, v1, v2, v3, v4] t)) w6) : Blk w6 (W.heap.size + 1) t #[v0, v1, v2, v3, v4] :=
  Blk.grown (row := some W.heap.size) (Blk.new' (by simp)) ho (by intro e; injection e; omega)
theorem bo2 {W w6 : World} {t u : TypeId} {v0 v1 v2 v3 v4 : Value} (ho : Only (W.heap.size + 1) ((W.alloc (.cells #[v0, v1, v2, v3, v4] t)).alloc (.cells #[] u)) w6) : Blk w6 W.heap.size t #[v0, v1, v2, v3, v4] :=
  Blk.grown (row := some (W.heap.size + 1)) ((Blk.new W t _).alloc _) ho (by intro e; injection e; omega)
theorem bo1' {W w6 : World} {t u : TypeId} {v0 v1 v2 v3 v4 : Value} (ho : Only W.heap.size ((W.alloc (.cells #[] u)).alloc (.cells #[v0, v1, v2, v3, v4] t)).drew w6) : Blk w6 (W.heap.size + 1) t #[v0, v1, v2, v3, v4] :=
  Blk.grown (row := some W.heap.size) (Blk.drew (Blk.new' (by simp))) ho (by intro e; injection e; omega)
theorem bo2' {W w6 : World} {t u : TypeId} {v0 v1 v2 v3 v4 : Value} (ho : Only (W.heap.size + 1) ((W.alloc (.cells #[v0, v1, v2, v3, v4] t)).alloc (.cells #[] u)).drew w6) : Blk w6 W.heap.size t #[v0, v1, v2, v3, v4] :=
  Blk.grown (row := some (W.heap.size + 1)) (Blk.drew ((Blk.new W t _).alloc _)) ho (by intro e; injection e; omega)
end
end Go.Proofs.YtolkdidcmingkaaDoor
