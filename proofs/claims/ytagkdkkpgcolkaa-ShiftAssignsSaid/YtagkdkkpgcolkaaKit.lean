/-
  Words for memory: a slice that reads as a list, worlds that differ in one block only. No program in sight; no conditions.
-/
import Derived.WalkKit
import Derived.WalkSpells
import Derived.WalkLawsBesides
import Derived.Deep.QuietTactic
import Derived.BigQuiet
import Derived.Deep.Draws
import Derived.Lib.Hide
import Derived.IntWalk
namespace Go.Proofs.Ytagkdkkpgcolkaa
open Go.RowKit

/-- element i of a list of numbers -/
def at1 (l : List Int) (i : Nat) : Int := l.getD i 0
/-- the fields of element i of a list of pairs -/
def fst2 (l : List (Int × Int)) (i : Nat) : Int := (l.getD i (0, 0)).1
def snd2 (l : List (Int × Int)) (i : Nat) : Int := (l.getD i (0, 0)).2

/-- the slice value at A, of n elements of 'size' cells, lies below block B and holds 'f i j' in cell j of element i -/
def Rd (w : World) (B size : Nat) (A : Option Addr) (n : Nat) (f : Nat → Nat → Value) : Prop :=
  0 < n → ∃ b off, A = some ⟨b, off, none⟩ ∧ b < B ∧ ∀ i j, i < n → j < size → w.cell? ⟨b, off + i * size + j, none⟩ = some (f i j)

section
variable {w w' : World} {B B' size n : Nat} {A : Option Addr} {f : Nat → Nat → Value}
theorem Rd.none_ : Rd w B size A 0 f := fun h => absurd h (by omega)
theorem Rd.keep (h : Rd w B size A n f) (hk : ∀ p : Addr, p.block < B → w'.cell? p = w.cell? p) : Rd w' B size A n f := fun hn => by
  obtain ⟨b, off, e, hb, hc⟩ := h hn
  exact ⟨b, off, e, hb, fun i j hi hj => (hk _ hb).trans (hc i j hi hj)⟩
theorem Rd.more (h : Rd w B size A n f) (hB : B ≤ B') : Rd w B' size A n f := fun hn => by
  obtain ⟨b, off, e, hb, hc⟩ := h hn
  exact ⟨b, off, e, by omega, hc⟩
theorem Rd.below (h : Rd w B size A n f) (hb : Below B w w') : Rd w' B size A n f := h.keep fun _ hp => hb.cell hp
theorem Rd.congr {f' : Nat → Nat → Value} (h : Rd w B size A n f) (he : ∀ i j, i < n → j < size → f i j = f' i j) : Rd w B size A n f' := fun hn => by
  obtain ⟨b, off, e, hb, hc⟩ := h hn
  exact ⟨b, off, e, hb, fun i j hi hj => (hc i j hi hj).trans (by rw [he i j hi hj])⟩
end

/-- a slice of numbers; of pairs of numbers -/
def RdI (w : World) (B : Nat) (A : Option Addr) (l : List Int) : Prop := Rd w B 1 A l.length fun i _ => .int .i64 (at1 l i)
def pairCell (l : List (Int × Int)) (i j : Nat) : Value := .int .i64 (if j = 0 then fst2 l i else snd2 l i)
def RdP (w : World) (B : Nat) (A : Option Addr) (l : List (Int × Int)) : Prop := Rd w B 2 A l.length (pairCell l)

theorem RdI.below {w w' : World} {B : Nat} {A : Option Addr} {l : List Int} (h : RdI w B A l) (hb : Below B w w') : RdI w' B A l := Rd.below h hb
theorem RdP.below {w w' : World} {B : Nat} {A : Option Addr} {l : List (Int × Int)} (h : RdP w B A l) (hb : Below B w w') : RdP w' B A l := Rd.below h hb
theorem RdI.at_ {w : World} {B : Nat} {A : Option Addr} {l : List Int} (h : RdI w B A l) {i : Nat} (hi : i < l.length) :
    ∃ b off, A = some ⟨b, off, none⟩ ∧ b < B ∧ w.cell? ⟨b, off + i, none⟩ = some (.int .i64 (at1 l i)) := by
  obtain ⟨b, off, e, hb, hc⟩ := h (by omega)
  exact ⟨b, off, e, hb, by simpa using hc i 0 hi (by omega)⟩
theorem RdI.all {w : World} {B : Nat} {A : Option Addr} {l : List Int} (h : RdI w B A l) (hi : 0 < l.length) :
    ∃ b off, A = some ⟨b, off, none⟩ ∧ b < B ∧ ∀ i, i < l.length → w.cell? ⟨b, off + i, none⟩ = some (.int .i64 (at1 l i)) := by
  obtain ⟨b, off, e, hb, hc⟩ := h (by omega)
  exact ⟨b, off, e, hb, fun i hi => by simpa using hc i 0 hi (by omega)⟩
theorem RdP.all {w : World} {B : Nat} {A : Option Addr} {l : List (Int × Int)} (h : RdP w B A l) (hi : 0 < l.length) :
    ∃ b off, A = some ⟨b, off, none⟩ ∧ b < B ∧ (∀ i, i < l.length → w.cell? ⟨b, off + i * 2, none⟩ = some (.int .i64 (fst2 l i))) ∧ ∀ i, i < l.length → w.cell? ⟨b, off + i * 2 + 1, none⟩ = some (.int .i64 (snd2 l i)) := by
  obtain ⟨b, off, e, hb, hc⟩ := h (by omega)
  exact ⟨b, off, e, hb, fun i hi => by simpa [pairCell] using hc i 0 hi (by omega), fun i hi => by simpa [pairCell] using hc i 1 hi (by omega)⟩

/-- a block that is known whole -/
def Blk (w : World) (g : Nat) (t : TypeId) (cs : Array Value) : Prop := w.heap[g]? = some (.cells cs t (0, 0))

section
variable {w w' : World} {g : Nat} {t : TypeId} {cs : Array Value}
theorem Blk.lt (h : Blk w g t cs) : g < w.heap.size := by
  rcases Nat.lt_or_ge g w.heap.size with hlt | hge
  · exact hlt
  · unfold Blk at h; rw [Array.getElem?_eq_none hge] at h; cases h
theorem Blk.cell (h : Blk w g t cs) (i : Nat) : w.cell? ⟨g, i, none⟩ = cs[i]? := cell_of_row w g i cs t (0, 0) h
theorem Blk.frozen (h : Blk w g t cs) (i : Nat) : w.frozen? ⟨g, i, none⟩ = false := by
  unfold Blk at h
  simp [World.frozen?, h]
theorem Blk.new (w : World) (t : TypeId) (cs : Array Value) : Blk (w.alloc (.cells cs t)) w.heap.size t cs := heap_alloc_new w _
theorem Blk.drew (h : Blk w g t cs) : Blk w.drew g t cs := h
theorem Blk.drewN (h : Blk w g t cs) (n : Nat) : Blk (w.drewN n) g t cs := h
theorem Blk.alloc (h : Blk w g t cs) (o : Obj) : Blk (w.alloc o) g t cs := (Below.heap_alloc w o g h.lt).trans h
theorem Blk.set_ (h : Blk w g t cs) (i : Nat) (u : Value) : Blk (w.setCell ⟨g, i, none⟩ u) g t (cs.setIfInBounds i u) := by
  unfold Blk at h ⊢
  simp [World.setCell, Array.getElem?_modify, h]
theorem Blk.far (h : Blk w g t cs) {p : Addr} (hp : g ≠ p.block) (u : Value) : Blk (w.setCell p u) g t cs := (Below.heap_setCell w p u g hp).trans h
theorem Blk.below {B : Nat} (h : Blk w g t cs) (hb : Below B w w') (hg : g < B) : Blk w' g t cs := (hb.block g hg).trans h
theorem Blk.grown {row : Option Nat} (h : Blk w g t cs) (hb : w.grownBy w' row) (hg : some g ≠ row) : Blk w' g t cs := (hb.block g h.lt hg).trans h
end

/-- w' is w with new blocks, and writes to block g alone -/
abbrev Only (g : Nat) (w w' : World) : Prop := w.grownBy w' (some g)
section
variable {a b c w w' : World} {g : Nat}
theorem Only.refl (g : Nat) (w : World) : Only g w w := World.grownBy.refl w _
theorem Only.trans (h : Only g a b) (k : Only g b c) : Only g a c :=
  ⟨k.os.trans h.os, k.tape.trans h.tape, k.output.trans h.output, Nat.le_trans h.size k.size, fun i hi hne => (k.block i (Nat.lt_of_lt_of_le hi h.size) hne).trans (h.block i hi hne)⟩
theorem Only.drewN (h : Only g a w) (n : Nat) : Only g a (w.drewN n) := ⟨h.os, h.tape, h.output, h.size, h.block⟩
theorem Only.drew (h : Only g a w) : Only g a w.drew := ⟨h.os, h.tape, h.output, h.size, h.block⟩
theorem Only.alloc (h : Only g a w) (o : Obj) : Only g a (w.alloc o) :=
  ⟨h.os, h.tape, h.output, Nat.le_trans h.size (by simp), fun i hi hne => (Below.heap_alloc w o i (Nat.lt_of_lt_of_le hi h.size)).trans (h.block i hi hne)⟩
theorem Only.setCell (h : Only g a w) {p : Addr} (hp : p.block = g ∨ a.heap.size ≤ p.block) (u : Value) : Only g a (w.setCell p u) :=
  ⟨h.os, h.tape, h.output, by simpa [World.setCell] using h.size, fun i hi hne => (Below.heap_setCell w p u i (by
    rintro rfl
    rcases hp with hp | hp
    · exact hne (by rw [hp])
    · omega)).trans (h.block i hi hne)⟩
theorem Only.of_below (h : Below a.heap.size a w) (g : Nat) : Only g a w := ⟨h.os, h.tape, h.output, h.size, fun i hi _ => h.block i hi⟩
theorem Only.below (h : Only g a w) {B : Nat} (hB : B ≤ a.heap.size) (hg : B ≤ g) : Below B a w :=
  ⟨h.os, h.tape, h.output, h.size, fun i hi => h.block i (by omega) (fun e => by injection e; omega)⟩
theorem Rd.only {B size n : Nat} {A : Option Addr} {f : Nat → Nat → Value} (h : Rd w B size A n f) (ho : Only g w w') (hB : B ≤ w.heap.size) (hg : B ≤ g) : Rd w' B size A n f := h.below (ho.below hB hg)
end
theorem below_drewN {B : Nat} {a w : World} (h : Below B a w) (n : Nat) : Below B a (w.drewN n) := ⟨h.os, h.tape, h.output, h.size, h.block⟩
theorem ret_int {k : IntKind} {a b : Int} (h : a = b) : Ending.returned (.int k a) = .returned (.int k b) := by rw [h]
theorem ret_bool {a b : Bool} (h : a = b) : Ending.returned (.bool a) = .returned (.bool b) := by rw [h]

theorem at1_mem (l : List Int) (i : Nat) (h : i < l.length) : at1 l i ∈ l := by
  unfold at1
  rw [List.getD_eq_getElem?_getD, List.getElem?_eq_getElem h]
  exact List.getElem_mem h
theorem rdI_new (w : World) (l : List Int) (t : TypeId) : RdI (w.alloc (.cells (l.map (Value.int .i64)).toArray t)) (w.heap.size + 1) (some ⟨w.heap.size, 0, none⟩) l := by
  intro _
  refine ⟨w.heap.size, 0, rfl, by omega, fun i j hi hj => ?_⟩
  have hj0 : j = 0 := by omega
  subst hj0
  have := (Blk.new w t (l.map (Value.int .i64)).toArray).cell i
  simp only [Nat.zero_add, Nat.mul_one, Nat.add_zero]
  rw [this]
  simp [at1, hi]
theorem tm_bd (v n : Int) (hn : 0 < n) : -n < v.tmod n ∧ v.tmod n < n := ⟨Int.lt_tmod_of_pos v hn, Int.tmod_lt_of_pos v hn⟩
theorem mod_neg (v n : Int) (hn : 0 < n) (h : v.tmod n < 0) : v.tmod n + n = v % n := by
  have h1 := tm_bd v n hn
  have h2 : v.tmod n + n = v - n * (v.tdiv n - 1) := by rw [Int.tmod_def, Int.mul_sub]; omega
  have h3 : (v.tmod n + n) % n = v % n := by rw [h2, Int.sub_mul_emod_self_left]
  rw [← h3, Int.emod_eq_of_lt (by omega) (by omega)]
theorem mod_pos (v n : Int) (hn : 0 < n) (h : 0 ≤ v.tmod n) : v.tmod n = v % n := by
  have h1 := tm_bd v n hn
  have h3 : (v.tmod n) % n = v % n := by rw [Int.tmod_def, Int.sub_mul_emod_self_left]
  rw [← h3, Int.emod_eq_of_lt (by omega) (by omega)]
theorem mod_bd (v n : Int) (hn : 0 < n) : 0 ≤ v % n ∧ v % n < n := ⟨Int.emod_nonneg v (by omega), Int.emod_lt_of_pos v hn⟩
end Go.Proofs.Ytagkdkkpgcolkaa
