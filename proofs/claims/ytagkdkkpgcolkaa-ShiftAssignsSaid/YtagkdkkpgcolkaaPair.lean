/-
  Words for memory: a slice of pairs of the call's own. No program in sight; no conditions.
-/
import Derived.Test.YtagkdkkpgcolkaaKit
import Derived.Deep.AppendLies
import Derived.Deep.DeepMust
import Derived.Maps.AppendAt
namespace Go.Proofs.Ytagkdkkpgcolkaa
open Go.RowKit
set_option linter.unusedSimpArgs false
def flat2 (l : List (Int × Int)) : List Value := l.flatMap fun p => [.int .i64 p.1, .int .i64 p.2]
theorem flat2_snoc (l : List (Int × Int)) (x : Int × Int) : flat2 (l ++ [x]) = flat2 l ++ [.int .i64 x.1, .int .i64 x.2] := by simp [flat2]
theorem flat2_cons (l : List (Int × Int)) (x : Int × Int) : flat2 (x :: l) = .int .i64 x.1 :: .int .i64 x.2 :: flat2 l := by simp [flat2]
theorem flat2_get (l : List (Int × Int)) : ∀ i, i < l.length → (flat2 l)[i * 2]? = some (.int .i64 (fst2 l i)) ∧ (flat2 l)[i * 2 + 1]? = some (.int .i64 (snd2 l i)) := by
  induction l with
  | nil => intro i h; simp at h
  | cons a t ih =>
    intro i h
    cases i with
    | zero => simp [flat2_cons, fst2, snd2]
    | succ i =>
      have := ih i (by simpa using h)
      rw [flat2_cons]
      have e1 : (i + 1) * 2 = i * 2 + 1 + 1 := by omega
      rw [e1]
      simpa [fst2, snd2] using this
theorem flat2_one (l : List (Int × Int)) : ∀ u ∈ flat2 l, u.oneCell' = true := by
  intro u hu
  simp only [flat2, List.mem_flatMap] at hu
  obtain ⟨p, _, hp⟩ := hu
  simp at hp
  rcases hp with rfl | rfl <;> rfl
theorem own_rd2 {w : World} {base : Nat} {e : TypeId} {A : Option Addr} {c : Nat} {l : List (Int × Int)} (h : w.ownsRow base e 2 (.slice A l.length c) l.length (flat2 l)) : RdP w w.heap.size A l := by
  intro hn
  obtain ⟨g, cap, hv, _, hlt⟩ := h.form hn
  injection hv with hA _ _
  subst hA
  refine ⟨g, 0, rfl, hlt, fun i j hi hj => ?_⟩
  have hc := h.cells (g := g) rfl
  have hg := flat2_get l i hi
  rcases (show j = 0 ∨ j = 1 by omega) with rfl | rfl
  · have := hc (i * 2) _ hg.1
    simpa [pairCell, Go.WideShapes.add_plain] using this
  · have := hc (i * 2 + 1) _ hg.2
    simpa [pairCell, Go.WideShapes.add_plain] using this
theorem fst2_last (l : List (Int × Int)) (x : Int × Int) : fst2 (l ++ [x]) l.length = x.1 := by simp [fst2]
theorem snd2_last (l : List (Int × Int)) (x : Int × Int) : snd2 (l ++ [x]) l.length = x.2 := by simp [snd2]
theorem fst2_front (s : List (Int × Int)) (x : Int × Int) (i : Nat) (h : i < s.length) : fst2 (s ++ [x]) i = fst2 s i := by simp [fst2, List.getElem?_append, h]
theorem snd2_front (s : List (Int × Int)) (x : Int × Int) (i : Nat) (h : i < s.length) : snd2 (s ++ [x]) i = snd2 s i := by simp [snd2, List.getElem?_append, h]
theorem Blk.new' {w : World} {g : Nat} {t : TypeId} {cs : Array Value} (hg : g = w.heap.size) : Blk (w.alloc (.cells cs t)) g t cs := hg ▸ Blk.new w t cs
theorem bcell {B b o : Nat} {w w' : World} (h : Below B w w') (hb : b < B) : w'.cell? ⟨b, o, none⟩ = w.cell? ⟨b, o, none⟩ := h.cell hb
theorem rdI_at (w : World) (l : List Int) (t : TypeId) (gs : Nat) (h : gs = w.heap.size) : RdI (w.alloc (.cells (l.map (Value.int .i64)).toArray t)) (w.heap.size + 1) (some ⟨gs, 0, none⟩) l := by subst h; exact rdI_new w l t
theorem RdI.up {w : World} {l : List Int} {A : Option Addr} {o : Obj} (h : RdI (w.alloc o) (w.heap.size + 1) A l) : RdI (w.alloc o) (w.alloc o).heap.size A l := Rd.more h (by simp)
/-- a slice whose block is not g reads the same when only g has turned -/
theorem Rd.only' {w w' : World} {g B size n : Nat} {A : Option Addr} {f : Nat → Nat → Value} (h : Rd w B size A n f) (ho : Only g w w') (hB : B ≤ w.heap.size) (hg : ∀ b off, A = some ⟨b, off, none⟩ → b ≠ g) : Rd w' B size A n f := fun hn => by
  obtain ⟨b, off, e, hb, hc⟩ := h hn
  refine ⟨b, off, e, hb, fun i j hi hj => ?_⟩
  have := hg b off e
  exact (World.cell?_of_block (ho.block b (by omega) (fun e => by injection e; omega))).trans (hc i j hi hj)
end Go.Proofs.Ytagkdkkpgcolkaa
