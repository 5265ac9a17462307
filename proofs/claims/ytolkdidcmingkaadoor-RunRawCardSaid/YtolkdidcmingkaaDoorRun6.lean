/-
  Chapter 40: the plain step, and the contract of run.Step.
-/
import Derived.Test.YtolkdidcmingkaaDoorRun5
namespace Go.Proofs.YtolkdidcmingkaaDoor
open Go.RowKit
set_option linter.unusedVariables false
set_option linter.unusedSimpArgs false

section
variable (s : Int) (E : List Int) (c : T3) (k : Int) (F : List Int) (d : T3)
noncomputable def stE : Int :=
  if validB s E c && formB k F.length (eqC d C0) then
    (if mayB s k then (if k = 1 then (if ascB F then 0 else 2) else if k = 2 then (if fitsB d E.length then 0 else 2) else if k = 3 ∨ k = 4 then (if eqC d c then 0 else 17) else 0) else 15)
  else 1
noncomputable def stS : Int := if stE s E c k F d = 0 then nxt k else 0
noncomputable def stL : List Int := if stE s E c k F d = 0 then (if k = 1 then F else if k = 6 then [] else E) else []
noncomputable def stC : T3 := if stE s E c k F d = 0 then (if k = 2 then d else if k = 6 then C0 else c) else C0
end
/-- a run and an error, the employees in memory of their own -/
def SPost (s : Int) (E : List Int) (c : T3) (er : Int) (w : World) (e : Ending) (w' : World) : Prop :=
  ∃ A n, e = .returned (.tuple #[.agg #[.int .i64 s, .slice A E.length n, .int .i64 c.1, .int .i64 c.2.1, .int .i64 c.2.2], .int .i64 er]) ∧ Below w.heap.size w w' ∧ RdI w' w'.heap.size A E ∧ ∀ b off, A = some ⟨b, off, none⟩ → w.heap.size ≤ b
def StepPost (s : Int) (E : List Int) (c : T3) (k : Int) (F : List Int) (d : T3) (w : World) (e : Ending) (w' : World) : Prop :=
  SPost (stS s E c k F d) (stL s E c k F d) (stC s E c k F d) (stE s E c k F d) w e w'
theorem step_err {s : Int} {E : List Int} {c : T3} {k : Int} {F : List Int} {d : T3} {er : Int} (he : stE s E c k F d = er) (h0 : er ≠ 0) {w w' : World} (hb : Below w.heap.size w w') :
    StepPost s E c k F d w (.returned (.tuple #[.agg #[.int .i64 0, .slice none 0 0, .int .i64 0, .int .i64 0, .int .i64 0], .int .i64 er])) w' := by
  have hn : ¬ stE s E c k F d = 0 := by rw [he]; exact h0
  unfold StepPost stS stL stC
  rw [if_neg hn, if_neg hn, if_neg hn, he]
  exact ⟨none, 0, rfl, hb, Rd.none_, fun b off e => by cases e⟩
theorem step_ok {s : Int} {E : List Int} {c : T3} {k : Int} {F : List Int} {d : T3} (he : stE s E c k F d = 0) {s' : Int} {E' : List Int} {c0 c1 c2 : Int} (h1 : nxt k = s') (h2 : (if k = 1 then F else if k = 6 then [] else E) = E') (h3 : (if k = 2 then d else if k = 6 then C0 else c) = (c0, c1, c2))
    {w w' : World} {A : Option Addr} {n : Nat} (hb : Below w.heap.size w w') (hr : RdI w' w'.heap.size A E') (hf : ∀ b off, A = some ⟨b, off, none⟩ → w.heap.size ≤ b) :
    StepPost s E c k F d w (.returned (.tuple #[.agg #[.int .i64 s', .slice A E'.length n, .int .i64 c0, .int .i64 c1, .int .i64 c2], .int .i64 0])) w' := by
  unfold StepPost stS stL stC
  rw [if_pos he, if_pos he, if_pos he, he, h1, h2, h3]
  exact ⟨A, n, rfl, hb, hr, hf⟩

/-- the three variables of a step -/
structure SB (w : World) (r q : Array Value) (W : World) : Prop where
  below : Below w.heap.size w W
  b0 : Blk W w.heap.size 27 r
  b1 : Blk W (w.heap.size + 1) 32 q
  b2 : Blk W (w.heap.size + 2) 27 #[.int .i64 0, .slice none 0 0, .int .i64 0, .int .i64 0, .int .i64 0]
theorem SB.start (w : World) (r q : Array Value) : SB w r q (((w.alloc (.cells r 27)).alloc (.cells q 32)).alloc (.cells #[.int .i64 0, .slice none 0 0, .int .i64 0, .int .i64 0, .int .i64 0] 27)) :=
  ⟨(((Below.refl _ _).alloc (Nat.le_refl _) _).alloc (by simp) _).alloc (by simp; omega) _, ((Blk.new _ _ _).alloc _).alloc _, (Blk.new' (by simp)).alloc _, Blk.new' (by simp)⟩
theorem SB.calc_ {w W W' : World} {r q : Array Value} (h : SB w r q W) (hb : Below W.heap.size W W') : SB w r q W' :=
  ⟨h.below.trans (hb.mono h.below.size), h.b0.below hb h.b0.lt, h.b1.below hb h.b1.lt, h.b2.below hb h.b2.lt⟩
theorem SB.alloc {w W : World} {r q : Array Value} (h : SB w r q W) (o : Obj) : SB w r q (W.alloc o) := h.calc_ ((Below.refl _ _).alloc (Nat.le_refl _) o)
theorem Rd.far {w w' : World} {B size n g : Nat} {A : Option Addr} {f : Nat → Nat → Value} (h : Rd w B size A n f) (ho : Only g w w') (hne : ∀ b off, A = some ⟨b, off, none⟩ → b ≠ g) : Rd w' B size A n f := fun hn => by
  obtain ⟨b, off, e, hb, hc⟩ := h hn
  exact ⟨b, off, e, hb, fun i j hi hj => ho.cell (hc i j hi hj) (by intro e'; injection e' with e'; exact hne b off e e')⟩
/-- five cells of a block, stored -/
def put5 (W : World) (r : Nat) (a b c d e : Value) : World := ((((W.setCell ⟨r, 0, none⟩ a).setCell ⟨r, 1, none⟩ b).setCell ⟨r, 2, none⟩ c).setCell ⟨r, 3, none⟩ d).setCell ⟨r, 4, none⟩ e
theorem put5_only (W : World) (r : Nat) (a b c d e : Value) : Only r W (put5 W r a b c d e) :=
  (((((Only.refl r W).setCell (p := ⟨r, 0, none⟩) (.inl rfl) _).setCell (p := ⟨r, 1, none⟩) (.inl rfl) _).setCell (p := ⟨r, 2, none⟩) (.inl rfl) _).setCell (p := ⟨r, 3, none⟩) (.inl rfl) _).setCell (p := ⟨r, 4, none⟩) (.inl rfl) _
theorem below_only {w W W' : World} {g : Nat} (h : Below w.heap.size w W) (ho : Only g W W') (hg : w.heap.size ≤ g) : Below w.heap.size w W' := h.trans (ho.below h.size hg)
theorem below_put {w W : World} (h : Below w.heap.size w W) (a b c d e : Value) (o : Obj) : Below w.heap.size w ((put5 W (w.heap.size + 2) a b c d e).alloc o) := by
  have h2 := below_only h (put5_only W (w.heap.size + 2) a b c d e) (by omega)
  exact h2.alloc h2.size o
theorem rd_only {W W' : World} {g : Nat} {A : Option Addr} {E : List Int} (h : RdI W W.heap.size A E) (ho : Only g W W') (hne : ∀ b off, A = some ⟨b, off, none⟩ → b ≠ g) : RdI W' W'.heap.size A E := Rd.more (Rd.far h ho hne) ho.size

/-- and the next run's variable at block m -/
structure SN (w : World) (r q : Array Value) (m : Nat) (cs : Array Value) (W : World) : Prop where
  sb : SB w r q W
  nx : Blk W m 27 cs
  lt : w.heap.size + 2 < m
theorem SN.start {w W : World} {r q : Array Value} (h : SB w r q W) (cs : Array Value) : SN w r q W.heap.size cs (W.alloc (.cells cs 27)) := ⟨h.alloc _, Blk.new _ _ _, h.b2.lt⟩
theorem SN.calc_ {w W W' : World} {r q cs : Array Value} {m : Nat} (h : SN w r q m cs W) (hb : Below W.heap.size W W') : SN w r q m cs W' := ⟨h.sb.calc_ hb, h.nx.below hb h.nx.lt, h.lt⟩
theorem SN.set {w W : World} {r q cs : Array Value} {m : Nat} (h : SN w r q m cs W) (i : Nat) (v : Value) : SN w r q m (cs.setIfInBounds i v) (W.setCell ⟨m, i, none⟩ v) := by
  have hlt := h.lt
  have ho : Only m W (W.setCell ⟨m, i, none⟩ v) := (Only.refl m W).setCell (p := ⟨m, i, none⟩) (.inl rfl) _
  exact ⟨⟨below_only h.sb.below ho (by omega), h.sb.b0.grown ho (by intro e; injection e; omega), h.sb.b1.grown ho (by intro e; injection e; omega), h.sb.b2.grown ho (by intro e; injection e; omega)⟩, h.nx.set_ i v, hlt⟩

end Go.Proofs.YtolkdidcmingkaaDoor
