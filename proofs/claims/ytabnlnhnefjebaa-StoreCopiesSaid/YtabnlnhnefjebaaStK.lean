/-
  Words for memory: bytes, arrays of bytes that are known whole. No program in sight; no conditions.
-/
import Derived.Test.YtabnlnhnefjebaaKit
import Derived.Test.YtabnlnhnefjebaaRet
import Derived.Test.YtabnlnhnefjebaaTriple
import Derived.Test.YtabnlnhnefjebaaPair
import Derived.Test.YtabnlnhnefjebaaAppRd
import Derived.Deep.WholeRow
import Derived.Deep.MidRow
import Derived.Laws.CopyOwn
namespace Go.Proofs.Ytabnlnhnefjebaa
open Go.RowKit
set_option linter.unusedVariables false
set_option linter.unusedSimpArgs false

/-- bytes as cells -/
def u8s (l : List Int) : List Value := l.map (Value.int .u8)
theorem u8s_len (l : List Int) : (u8s l).length = l.length := by simp [u8s]
theorem u8s_get (l : List Int) (i : Nat) (h : i < l.length) : (u8s l)[i]? = some (.int .u8 (at1 l i)) := by simp [u8s, at1, h]
theorem u8s_one (l : List Int) : ∀ u ∈ u8s l, u.oneCell' = true := by
  intro u hu
  simp [u8s] at hu
  obtain ⟨x, _, rfl⟩ := hu
  rfl
theorem u8s_app (a b : List Int) : u8s (a ++ b) = u8s a ++ u8s b := by simp [u8s]
theorem u8s_all (l : List Int) : (u8s l).toArray.all (·.oneCell') = true := all_oneCell_toArray (u8s_one l)
theorem u8s_size (l : List Int) : (u8s l).toArray.size = l.length := by simp [u8s]

def RdB (w : World) (B : Nat) (A : Option Addr) (l : List Int) : Prop := Rd w B 1 A l.length fun i _ => .int .u8 (at1 l i)
theorem RdB.all {w : World} {B : Nat} {A : Option Addr} {l : List Int} (h : RdB w B A l) (hi : 0 < l.length) :
    ∃ b off, A = some ⟨b, off, none⟩ ∧ b < B ∧ ∀ i, i < l.length → w.cell? ⟨b, off + i, none⟩ = some (.int .u8 (at1 l i)) := by
  obtain ⟨b, off, e, hb, hc⟩ := h (by omega)
  exact ⟨b, off, e, hb, fun i hi => by simpa using hc i 0 hi (by omega)⟩
theorem RdB.below {w w' : World} {B : Nat} {A : Option Addr} {l : List Int} (h : RdB w B A l) (hb : Below B w w') : RdB w' B A l := Rd.below h hb
theorem RdB.src {w : World} {B : Nat} {A : Option Addr} {l : List Int} (h : RdB w B A l) : Src w 1 A l.length (u8s l) :=
  src_rd (f := fun i _ => .int .u8 (at1 l i)) (u8s l) (by simp [u8s]) (fun i j hi hj => by
    have : j = 0 := by omega
    subst this
    simpa using u8s_get l i hi) h
theorem own_rdB {w : World} {base : Nat} {e : TypeId} {A : Option Addr} {c : Nat} {l : List Int} (h : w.ownsRow base e 1 (.slice A l.length c) l.length (u8s l)) : RdB w w.heap.size A l := by
  intro hn
  obtain ⟨g, cap, hv, _, hlt⟩ := h.form hn
  injection hv with hA _ _
  subst hA
  refine ⟨g, 0, rfl, hlt, fun i j hi hj => ?_⟩
  have hc := h.cells (g := g) rfl
  have hj0 : j = 0 := by omega
  subst hj0
  have := hc i (.int .u8 (at1 l i)) (u8s_get l i hi)
  simpa [Go.WideShapes.add_plain] using this
theorem at1_take (l : List Int) (n i : Nat) (h : i < n) : at1 (l.take n) i = at1 l i := by simp [at1, List.getElem?_take, h]
theorem at1_drop (l : List Int) (n i : Nat) : at1 (l.drop n) i = at1 l (n + i) := by simp [at1]
theorem RdB.take {w : World} {B : Nat} {A : Option Addr} {l : List Int} (h : RdB w B A l) (n : Nat) : RdB w B A (l.take n) := by
  intro hn
  have hn' : 0 < l.length := by simp at hn; omega
  obtain ⟨b, off, e, hb, hc⟩ := h hn'
  refine ⟨b, off, e, hb, fun i j hi hj => ?_⟩
  have hi0 : i < min n l.length := by simpa using hi
  have hi' : i < n ∧ i < l.length := by omega
  rw [hc i j hi'.2 hj]
  dsimp only
  rw [at1_take l n i hi'.1]

/-- an operation whose run is known -/
theorem wpList_val {P : Program} {ops : Array Oper} {rest : List Oper} {o : Oper} {a : Act} {w : World} {Q : Exit → Act → World → Prop} (hgd : o.guard = none) (v : Value) (w' : World)
    (hr : (execOp a.eval o).run P w = .ok (.value v) w') (h : wpList P ops Q rest (a.put o.dst v) w') : wpList P ops Q (o :: rest) a w :=
  wpList_plain hgd fun _ hK => by
    unfold Oper.wp
    rw [hr]
    exact hK _ _ h
/-- a new array: its block and the world behind it by letters -/
theorem wpList_alloc_arr {P : Program} {ops : Array Oper} {rest : List Oper} {o : Oper} {a : Act} {w : World} {Q : Exit → Act → World → Prop} (hgd : o.guard = none) (ty : TypeId) (ho : o.op = .alloc ty)
    (z : Array Value) (hz : (P.info? ty).map (·.zero) = some (some (.agg z)))
    (h : ∀ g w', Hid (g = w.heap.size) → Hid (w' = w.alloc (.cells z ty)) → wpList P ops Q rest (a.put o.dst (.pointer (some ⟨g, 0, none⟩))) w') : wpList P ops Q (o :: rest) a w := by
  refine wpList_val hgd _ _ ?_ (h _ _ (Lib.hid rfl) (Lib.hid rfl))
  cases hi : P.info? ty with
  | none => rw [hi] at hz; simp at hz
  | some i =>
    rw [hi] at hz
    simp at hz
    simp [execOp, ho, Instr.alloc, zeroValue, typeInfo, hi, hz, newVar, newRow, Value.cells, Result.andThen]
theorem wpList_box_arr {P : Program} {ops : Array Oper} {rest : List Oper} {o : Oper} {a : Act} {w : World} {Q : Exit → Act → World → Prop} (hgd : o.guard = none) (ty : TypeId) (x : Operand) (ho : o.op = .box ty x)
    (c : Array Value) (hx : a.eval x = .agg c)
    (h : ∀ g w', Hid (g = w.heap.size) → Hid (w' = w.alloc (.cells c ty)) → wpList P ops Q rest (a.put o.dst (.pointer (some ⟨g, 0, none⟩))) w') : wpList P ops Q (o :: rest) a w := by
  refine wpList_val hgd _ _ ?_ (h _ _ (Lib.hid rfl) (Lib.hid rfl))
  simp [execOp, ho, hx, Instr.box, newVar, newRow, Value.cells, Result.andThen]
/-- a whole array stored into a block that is known whole -/
theorem wpList_store_blk {P : Program} {ops : Array Oper} {rest : List Oper} {o : Oper} {a : Act} {w : World} {Q : Exit → Act → World → Prop} (hgd : o.guard = none) (ty : TypeId) (x y : Operand) (ho : o.op = .store ty x y)
    (g : Nat) (c c' : Array Value) (t : TypeId) (hg : Blk w g t c) (hx : a.eval x = .pointer (some ⟨g, 0, none⟩)) (hy : a.eval y = .agg c')
    (hi : (P.info? ty).map (·.size) = some c'.size) (hs : c.size = c'.size) (h1 : c'.all (·.oneCell') = true)
    (h : ∀ w', Hid (Blk w' g t c') → Hid (Only g w w') → wpList P ops Q rest (a.put o.dst undef) w') : wpList P ops Q (o :: rest) a w :=
  wpList_plain hgd fun _ hK => by
    unfold Oper.wp execOp
    simp only [ho, hx, hy, Instr.storeAt, Instr.sureAddr, Sem.run_bind, Sem.run_pure, Result.andThen_ok, run_storeVar_row w g t ty c c' hg hi hs h1]
    exact hK _ _ (h _ (Lib.hid (setRow_heap w g _ _ t _ hg)) (Lib.hid ⟨rfl, rfl, rfl, by simp [World.setRow], fun k _ hne => setRow_other w g k c' (fun e => hne (by rw [e]))⟩))
/-- a whole array loaded out of a block that is known whole -/
theorem wpList_load_blk {P : Program} {ops : Array Oper} {rest : List Oper} {o : Oper} {a : Act} {w : World} {Q : Exit → Act → World → Prop} (hgd : o.guard = none) (ty : TypeId) (x : Operand) (ho : o.op = .load ty x)
    (g : Nat) (c : Array Value) (t : TypeId) (hg : Blk w g t c) (hx : a.eval x = .pointer (some ⟨g, 0, none⟩)) (d : TypeDesc)
    (hu : P.underlying ty = some d) (hd : (match d with | .struct _ | .array _ _ => true | _ => false) = true) (hi : (P.info? ty).map (·.size) = some c.size)
    (h : wpList P ops Q rest (a.put o.dst (.agg c)) w) : wpList P ops Q (o :: rest) a w :=
  wpList_plain hgd fun _ hK => by
    unfold Oper.wp execOp
    simp only [ho, hx, Instr.loadAt, Instr.sureAddr, Sem.run_bind, Sem.run_pure, Result.andThen_ok, run_loadVar_row w g t ty c (0, 0) d hg hu hd hi]
    exact hK _ _ h

/-- the same at a guarded operation that is wanted -/
theorem wpList_load_blkG {P : Program} {ops : Array Oper} {rest : List Oper} {o : Oper} {a : Act} {w : World} {Q : Exit → Act → World → Prop} (hwa : Region.wanted o (yielded ops a.tmps) = true) (ty : TypeId) (x : Operand) (ho : o.op = .load ty x)
    (g : Nat) (c : Array Value) (t : TypeId) (hg : Blk w g t c) (hx : a.eval x = .pointer (some ⟨g, 0, none⟩)) (d : TypeDesc)
    (hu : P.underlying ty = some d) (hd : (match d with | .struct _ | .array _ _ => true | _ => false) = true) (hi : (P.info? ty).map (·.size) = some c.size)
    (h : wpList P ops Q rest (a.put o.dst (.agg c)) w) : wpList P ops Q (o :: rest) a w :=
  wpList_step fun _ hK => by
    rw [if_pos hwa]
    unfold Oper.wp execOp
    simp only [ho, hx, Instr.loadAt, Instr.sureAddr, Sem.run_bind, Sem.run_pure, Result.andThen_ok, run_loadVar_row w g t ty c (0, 0) d hg hu hd hi]
    exact hK _ _ h

theorem and128 (x : Int) (h0 : 0 ≤ x) (h1 : x ≤ 255) : (bits .and .u8 x 128 != 0) = decide (128 ≤ x) := by
  have h : ∀ y : Fin 256, (bits .and .u8 (y.val : Int) 128 != 0) = decide (128 ≤ (y.val : Int)) := by decide +kernel
  have := h ⟨x.toNat, by omega⟩
  simpa [Int.toNat_of_nonneg h0] using this
theorem andNot128 (x : Int) (h0 : 0 ≤ x) (h1 : x ≤ 255) : bits .andNot .u8 x 128 = x % 128 := by
  have h : ∀ y : Fin 256, bits .andNot .u8 (y.val : Int) 128 = (y.val : Int) % 128 := by decide +kernel
  have := h ⟨x.toNat, by omega⟩
  simpa [Int.toNat_of_nonneg h0] using this
theorem or128 (x : Int) (h0 : 0 ≤ x) (h1 : x ≤ 127) : bits .or .u8 x 128 = x + 128 := by
  have h : ∀ y : Fin 128, bits .or .u8 (y.val : Int) 128 = (y.val : Int) + 128 := by decide +kernel
  have := h ⟨x.toNat, by omega⟩
  simpa [Int.toNat_of_nonneg h0] using this
end Go.Proofs.Ytabnlnhnefjebaa
