/-
  Chapter 10: what appending a presence to a duty does. No walk; the memory is that of the given program.
-/
import Derived.Test.YtagkdkkpgcolkaaDu
namespace Go.Proofs.Ytagkdkkpgcolkaa
open Go.RowKit
set_option linter.unusedVariables false
set_option linter.unusedSimpArgs false
theorem infoPr : (Try.prog.info? 58).map (fun i => (i.zero, i.size, i.bytes)) = some (some (.agg #[.int .i64 0, .int .i64 0, .slice none 0 0]), 3, 40) := by kernel_rfl
theorem infoDu : (Try.prog.info? 55).map (fun i => (i.zero, i.size, i.bytes)) = some (some (.agg #[.int .i64 0, .int .i64 0, .slice none 0 0]), 3, 40) := by kernel_rfl
theorem undPr : Try.prog.underlying 45 = some (.slice 58) := by kernel_rfl
theorem undDu : Try.prog.underlying 49 = some (.slice 55) := by kernel_rfl
theorem three_src (w : World) (t : TypeId) (a b c : Value) : Src (w.alloc (.cells #[a, b, c] t)) 3 (some ⟨w.heap.size, 0, none⟩) 1 [a, b, c] := by
  refine ⟨rfl, fun _ => ⟨_, rfl, fun j u hu => ?_⟩⟩
  rw [Go.WideShapes.add_plain, (Blk.new w _ _).cell, Nat.zero_add]
  simpa using hu
theorem three_one (a b : Int) (A : Option Addr) (n c : Nat) : ∀ u ∈ [Value.int .i64 a, Value.int .i64 b, .slice A n c], u.oneCell' = true := by intro u hu; simp at hu; rcases hu with rfl | rfl | rfl <;> rfl
theorem DuO.mono {W : World} {base N N' : Nat} {v : Value} {ds : List Du} {ms : List M3} (h : DuO W base N v ds ms) (hN : N ≤ N') : DuO W base N' v ds ms := h.below (Below.refl _ _) hN
theorem dadd_run {w : World} {base N gD n c i : Nat} {ds : List Du} {ms : List M3} {f t : Int} {A : Option Addr} {cb m : Nat} {bs : List (Int × Int)} (h : DuO w base N (.slice (some ⟨gD, 0, none⟩) n c) ds ms) (hi : i < ds.length) (hn : n = ds.length) (hN : N ≤ w.heap.size) (hbs : base ≤ w.heap.size) (hm : m = bs.length)
    (hb : w.ownsRow base 38 2 (.slice A m cb) m (flat2 bs)) (hl : (uP ds i).length ≤ 2000) :
    ∃ Ai ci, w.cell? ⟨gD, i * 3 + 2, none⟩ = some (.slice Ai (uP ds i).length ci) ∧ gD < w.heap.size ∧ ∃ A9 c9 w4,
      (Builtin.append_ #[45, 45] 45 #[.slice Ai (uP ds i).length ci, .slice (some ⟨w.heap.size, 0, none⟩) 1 1]).run Try.prog (w.alloc (.cells #[.int .i64 f, .int .i64 t, .slice A m cb] 58)) = .ok (.slice A9 ((uP ds i).length + 1) c9) w4 ∧
      w4.cell? ⟨gD, i * 3 + 2, none⟩ = some (.slice Ai (uP ds i).length ci) ∧ w4.frozen? ⟨gD, i * 3 + 2, none⟩ = false ∧
      DuO (w4.setCell ⟨gD, i * 3 + 2, none⟩ (.slice A9 ((uP ds i).length + 1) c9)) base w4.heap.size (.slice (some ⟨gD, 0, none⟩) n c) (ds.modify i (dTo (f, t, bs))) (ms.set i (mA ms i, mB ms i, .slice A9 ((uP ds i).length + 1) c9)) ∧
      Chg (fun g => base ≤ g) w (w4.setCell ⟨gD, i * 3 + 2, none⟩ (.slice A9 ((uP ds i).length + 1) c9)) := by
  subst hm
  obtain ⟨ip, hip, hip0, hip1, hip2⟩ := info_parts infoPr
  obtain ⟨_, _, ps, hp⟩ := h.at_ i hi
  obtain ⟨Ai, ci, hv⟩ := own_slice hp.row
  have him : i < ms.length := by rw [h.len]; exact hi
  have hrow := h.row
  have hgD : gD < w.heap.size ∧ base ≤ gD := by have := h.row.lt gD rfl; exact ⟨this.2, this.1⟩
  have hc2 : w.cell? ⟨gD, i * 3 + 2, none⟩ = some (mC ms i) := by
    have := h.row.cells (g := gD) rfl _ _ (flatV_get ms i him).2.2
    rwa [Go.WideShapes.add_plain, Nat.zero_add] at this
  rw [hv] at hc2
  refine ⟨Ai, ci, hc2, hgD.1, ?_⟩
  have hp1 := hp.row.alloc (.cells #[.int .i64 f, .int .i64 t, .slice A bs.length cb] 58)
  rw [hv] at hp1
  obtain ⟨A9, c9, w4, r1, r2, r3, r4⟩ := append_full (P := Try.prog) (w.alloc (.cells #[.int .i64 f, .int .i64 t, .slice A bs.length cb] 58)) base 45 45 58 ip _ 3 40 undPr hip hip0 hip1 hip2 rfl (by decide) _ (uP ds i).length _ hp1 (some ⟨w.heap.size, 0, none⟩) 1 1 [.int .i64 f, .int .i64 t, .slice A bs.length cb] (three_src w _ _ _ _) (three_one _ _ _ _ _) (by unfold maxLen; omega) (by omega) (by simp; omega)
  have hk4 : Chg (fun g => (mC ms i).ownBlock = some g) w w4 := ((Chg.refl _ w).alloc _).trans (Chg.of_grown (S := fun g => (mC ms i).ownBlock = some g) r3 (fun i _ e => by rw [hv]; exact e)) (fun _ _ h => h)
  have hne : ∀ g, (mC ms i).ownBlock = some g → base ≤ g ∧ g ≠ gD := fun g hg => by
    refine ⟨(hp.row.lt g hg).1, ?_⟩
    rintro rfl
    obtain ⟨cs, hc⟩ := own_blk h.row (g := g) rfl
    obtain ⟨cs', hc'⟩ := own_blk hp.row hg
    exact Blk.ne_ hc hc' (by decide) rfl
  obtain ⟨csD, hcD⟩ := own_blk h.row (g := gD) rfl
  have hcD4 := hcD.chg hk4 (fun hg => (hne gD hg).2 rfl)
  have hb4 : w4.ownsRow base 38 2 (.slice A bs.length cb) bs.length (flat2 bs) := own_chg hb hk4 (fun g hg hs => by
    obtain ⟨cs, hc⟩ := own_blk hb hg
    obtain ⟨cs', hc'⟩ := own_blk hp.row hs
    exact Blk.ne_ hc hc' (by decide) rfl)
  have hc4 : w4.cell? ⟨gD, i * 3 + 2, none⟩ = some (.slice Ai (uP ds i).length ci) := by
    rw [← hc2]
    rw [hcD4.cell, hcD.cell]
  have hat : (Value.slice A9 ((uP ds i).length + 1) c9).ownBlock = (mC ms i).ownBlock ∨ (Value.slice A9 ((uP ds i).length + 1) c9).ownBlock = some (w.heap.size + 1) := by
    rcases r4 with r4 | r4
    · left; rw [r4, hv]
    · right; rw [r4]; simp
  have hadd := h.add hi hp hk4 r2 hat (by omega) (by have := hk4.size; omega) hb4 hn
  refine ⟨A9, c9, w4, r1, hc4, hcD4.frozen _, ?_, ?_⟩
  · exact hadd.mono (by simp)
  · exact (hk4.mono (S' := fun g => base ≤ g) (fun g _ hg => (hne g hg).1)).setCell (p := ⟨gD, i * 3 + 2, none⟩) (fun _ => hgD.2) _
end Go.Proofs.Ytagkdkkpgcolkaa
