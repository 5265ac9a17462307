/-
  Chapter 41: the part of a record, a region of the reference's Bytes that draws its order. The memory is that of the given program; no conditions.
-/
import Derived.Test.YtabnlnhnefjebaaRf3
import Derived.Test.YtabnlnhnefjebaaSt6a
namespace Go.Proofs.Ytabnlnhnefjebaa
open Go.RowKit
set_option linter.unusedVariables false
set_option linter.unusedSimpArgs false
section
variable {P : Program} {o : Oper} {a : Act} {w : World}
theorem x_index {x y : Operand} {t : TypeId} {u v r : Value} (ho : o.op = .indexAddr t x y) (hx : a.eval x = u) (hy : a.eval y = v) (hr : (Instr.indexAt t u v).run P w = .ok r w) : (execOp a.eval o).run P w = .ok (.value r) w := by
  unfold execOp; simp only [ho, hx, hy, Sem.run_bind, hr, Sem.run_pure, Result.andThen_ok]
theorem x_min {x y : Operand} {ts : Array TypeId} {k : IntKind} {m n : Int} (ho : o.op = .call { callee := .builtin .min, args := #[x, y], argTypes := ts }) (hx : a.eval x = .int k m) (hy : a.eval y = .int k n) : (execOp a.eval o).run P w = .ok (.value (.int k (min m n))) w := by
  have e : (if n < m then n else m) = min m n := by
    rcases Int.lt_or_le n m with h | h
    · rw [if_pos h]; omega
    · rw [if_neg (by omega)]; omega
  unfold execOp
  simp only [ho, resolve, invoke, builtin, Sem.run_bind, Sem.run_pure, Result.andThen_ok, List.map_toArray, List.map_cons, List.map_nil, hx, hy, run_min_int2, e]
theorem x_slice {x y z : Operand} {t : TypeId} {u v s r : Value} (ho : o.op = .slice t x (some y) (some z) none) (hx : a.eval x = u) (hy : a.eval y = v) (hz : a.eval z = s) (hr : (Instr.sliceAt t u (some v) (some s) none).run P w = .ok r w) : (execOp a.eval o).run P w = .ok (.value r) w := by
  unfold execOp; simp only [ho, hx, hy, hz, Option.map_some, Option.map_none, Sem.run_bind, hr, Sem.run_pure, Result.andThen_ok]
end
theorem sz23 (w : World) : (sizeOf 23).run Try.prog w = .ok 1 w := by kernel_rfl
theorem run_idx24 (w : World) (g n c i : Nat) (hi : i < n) : (Instr.indexAt 24 (.slice (some ⟨g, 0, none⟩) n c) (.int .i64 i)).run Try.prog w = .ok (.pointer (some ⟨g, i, none⟩)) w := by
  unfold Instr.indexAt
  simp [run_underlying und24, asIntOf, sz23, hi, Go.WideShapes.add_plain]
theorem load23 {w : World} {g i : Nat} {A : Option Addr} {n c : Nat} (h : w.cell? ⟨g, i, none⟩ = some (.slice A n c)) : (loadVar 23 ⟨g, i, none⟩).run Try.prog w = .ok (.slice A n c) w := by
  have hagg : (isAgg 23).run Try.prog w = .ok false w := by kernel_rfl
  unfold loadVar
  rw [Sem.run_bind, hagg, Result.andThen_ok]
  simp [h]
theorem len23 (w : World) (ty : TypeId) (A : Option Addr) (n c : Nat) : (Builtin.len_ #[23] ty #[.slice A n c]).run Try.prog w = .ok (.int .i64 n) w := by
  exact run_len_slice (P := Try.prog) w 23 ty A n c (by kernel_rfl)
theorem run_part (w : World) (A : Option Addr) (m ck at_ : Nat) (hat : at_ ≤ m) (hck : m ≤ ck) : (Instr.sliceAt 23 (.slice A m ck) (some (.int .i64 at_)) (some (.int .i64 (min ((at_ : Int) + 26) m))) none).run Try.prog w = .ok (.slice (if ck = at_ then A else A.map (·.add at_)) (min (at_ + 26) m - at_) (ck - at_)) w := by
  have h1 : (min ((at_ : Int) + 26) m).toNat = min (at_ + 26) m := by omega
  have h2 : (0 : Int) ≤ min ((at_ : Int) + 26) m ∧ min ((at_ : Int) + 26) m ≤ ck := by omega
  have h3 : (0 : Int) ≤ at_ ∧ (at_ : Int) ≤ (min (at_ + 26) m : Nat) := by omega
  have hsl : Try.prog.underlying 23 = some (.slice (Try.prog.elem 23)) := by kernel_rfl
  rw [run_sliceAt_slice w 23 _ _ _ _ hsl]
  unfold Instr.slice Instr.sliceBounds Instr.sliceBound
  simp only [Sem.run_bind, run_underlying und23, Result.andThen_ok, asIntOf, Sem.run_pure, if_pos h2, h1, if_pos h3, sz5, Int.toNat_natCast, Nat.mul_one]
set_option maxHeartbeats 1600000 in
theorem part_region {Q : Exit → Act → World → Prop} {a : Act} {w : World} (id b s0 s5 s6 sd : Nat) {y0 y1 y2 y3 y4 y5 y6 y7 y8 y9 y10 y11 y12 y13 y14 : TypeId} {q0 q1 q2 q3 q4 q5 q6 q7 q8 q9 q10 q11 q12 q13 q14 : String} {f0 f1 f2 f3 f4 f5 f6 f7 f8 f9 f10 f11 f12 f13 f14 : Array Edge} (hlex : Region.lexB .any ([⟨(some b), .move (.tmp s0), y0, q0, f0, none⟩, ⟨(some (b + 1)), .move (.tmp s5), y1, q1, f1, none⟩, ⟨(some (b + 2)), .indexAddr 24 (.tmp b) (.tmp (b + 1)), y2, q2, f2, none⟩, ⟨(some (b + 3)), .load 23 (.tmp (b + 2)), y3, q3, f3, none⟩, ⟨(some (b + 4)), .move (.tmp s6), y4, q4, f4, none⟩, ⟨(some (b + 5)), .move (.tmp s6), y5, q5, f5, none⟩, ⟨(some (b + 6)), .binOp .add 3 (.tmp (b + 5)) (.const (.int .i64 26)) 3, y6, q6, f6, none⟩, ⟨(some (b + 7)), .move (.tmp s0), y7, q7, f7, none⟩, ⟨(some (b + 8)), .move (.tmp s5), y8, q8, f8, none⟩, ⟨(some (b + 9)), .indexAddr 24 (.tmp (b + 7)) (.tmp (b + 8)), y9, q9, f9, none⟩, ⟨(some (b + 10)), .load 23 (.tmp (b + 9)), y10, q10, f10, none⟩, ⟨(some (b + 11)), .call { callee := .builtin .len, args := #[(.tmp (b + 10))], argTypes := #[23] }, y11, q11, f11, none⟩, ⟨(some (b + 12)), .call { callee := .builtin .min, args := #[(.tmp (b + 6)), (.tmp (b + 11))], argTypes := #[3, 3] }, y12, q12, f12, none⟩, ⟨(some (b + 13)), .slice 23 (.tmp (b + 3)) (some (.tmp (b + 4))) (some (.tmp (b + 12))) none, y13, q13, f13, none⟩, ⟨(some sd), .assign (.tmp (b + 13)), y14, q14, f14, none⟩] : List Oper).toArray = true)
    (hs0 : s0 < b) (hs5 : s5 < b) (hs6 : s6 < b) (hsd : sd < b) (hsz : b + 13 < a.tmps.size) (g n c i at_ m ck : Nat) (Ak : Option Addr) (e0 : a.eval (.tmp s0) = (.slice (some ⟨g, 0, none⟩) n c)) (e5 : a.eval (.tmp s5) = .int .i64 i) (e6 : a.eval (.tmp s6) = .int .i64 at_)
    (hi : i < n) (hc : w.cell? ⟨g, i, none⟩ = some (.slice Ak m ck)) (hat : at_ ≤ m) (hck : m ≤ ck) (hm : m ≤ 100000)
    (K : ∀ z0 z1 z2 z3 z4 z5 z6 z7 z8 z9 z10 z11 z12 z13 nq, Q .normal (((((((((((((((a.put (some b) z0).put (some (b + 1)) z1).put (some (b + 2)) z2).put (some (b + 3)) z3).put (some (b + 4)) z4).put (some (b + 5)) z5).put (some (b + 6)) z6).put (some (b + 7)) z7).put (some (b + 8)) z8).put (some (b + 9)) z9).put (some (b + 10)) z10).put (some (b + 11)) z11).put (some (b + 12)) z12).put (some (b + 13)) z13).put (some sd) (.slice (if ck = at_ then Ak else Ak.map (·.add at_)) (min (at_ + 26) m - at_) (ck - at_))) (w.drewN nq)) : (Code.region id ([⟨(some b), .move (.tmp s0), y0, q0, f0, none⟩, ⟨(some (b + 1)), .move (.tmp s5), y1, q1, f1, none⟩, ⟨(some (b + 2)), .indexAddr 24 (.tmp b) (.tmp (b + 1)), y2, q2, f2, none⟩, ⟨(some (b + 3)), .load 23 (.tmp (b + 2)), y3, q3, f3, none⟩, ⟨(some (b + 4)), .move (.tmp s6), y4, q4, f4, none⟩, ⟨(some (b + 5)), .move (.tmp s6), y5, q5, f5, none⟩, ⟨(some (b + 6)), .binOp .add 3 (.tmp (b + 5)) (.const (.int .i64 26)) 3, y6, q6, f6, none⟩, ⟨(some (b + 7)), .move (.tmp s0), y7, q7, f7, none⟩, ⟨(some (b + 8)), .move (.tmp s5), y8, q8, f8, none⟩, ⟨(some (b + 9)), .indexAddr 24 (.tmp (b + 7)) (.tmp (b + 8)), y9, q9, f9, none⟩, ⟨(some (b + 10)), .load 23 (.tmp (b + 9)), y10, q10, f10, none⟩, ⟨(some (b + 11)), .call { callee := .builtin .len, args := #[(.tmp (b + 10))], argTypes := #[23] }, y11, q11, f11, none⟩, ⟨(some (b + 12)), .call { callee := .builtin .min, args := #[(.tmp (b + 6)), (.tmp (b + 11))], argTypes := #[3, 3] }, y12, q12, f12, none⟩, ⟨(some (b + 13)), .slice 23 (.tmp (b + 3)) (some (.tmp (b + 4))) (some (.tmp (b + 12))) none, y13, q13, f13, none⟩, ⟨(some sd), .assign (.tmp (b + 13)), y14, q14, f14, none⟩] : List Oper).toArray true).wp Try.prog Q a w := by
  refine wp_region_quietC (C := fun W => ∃ k, W = w.drewN k) (by kernel_rfl) hlex ⟨1, rfl⟩ ?_
  have cc : ∀ W, (∃ k, W = w.drewN k) → W.cell? ⟨g, i, none⟩ = some (.slice Ak m ck) := fun W hW => by
    obtain ⟨k, rfl⟩ := hW
    exact hc
  refine q_val (d := some b) (v := (.slice (some ⟨g, 0, none⟩) n c)) (wanted_none rfl) rfl (fun W hW => x_move rfl (by exact e0)) ?_
  refine q_val (d := some (b + 1)) (v := (.int .i64 i)) (wanted_none rfl) rfl (fun W hW => x_move rfl (by rw [put_other _ _ _ _ (by omega)]; exact e5)) ?_
  refine q_val (d := some (b + 2)) (v := (.pointer (some ⟨g, i, none⟩))) (wanted_none rfl) rfl (fun W hW => x_index rfl (by rw [put_other _ _ _ _ (by omega)]; rw [put_same _ _ _ (by first | omega | (simp only [put_size]; omega))]) (by rw [put_same _ _ _ (by first | omega | (simp only [put_size]; omega))]) (run_idx24 W g n c i hi)) ?_
  refine q_val (d := some (b + 3)) (v := (.slice Ak m ck)) (wanted_none rfl) rfl (fun W hW => exec_load rfl (by rw [put_same _ _ _ (by first | omega | (simp only [put_size]; omega))]) (load23 (cc W hW))) ?_
  refine q_val (d := some (b + 4)) (v := (.int .i64 at_)) (wanted_none rfl) rfl (fun W hW => x_move rfl (by rw [put_other _ _ _ _ (by omega)]; rw [put_other _ _ _ _ (by omega)]; rw [put_other _ _ _ _ (by omega)]; rw [put_other _ _ _ _ (by omega)]; exact e6)) ?_
  refine q_val (d := some (b + 5)) (v := (.int .i64 at_)) (wanted_none rfl) rfl (fun W hW => x_move rfl (by rw [put_other _ _ _ _ (by omega)]; rw [put_other _ _ _ _ (by omega)]; rw [put_other _ _ _ _ (by omega)]; rw [put_other _ _ _ _ (by omega)]; rw [put_other _ _ _ _ (by omega)]; exact e6)) ?_
  refine q_val (d := some (b + 6)) (v := (.int .i64 ((at_ : Int) + 26))) (wanted_none rfl) rfl (fun W hW => x_bin rfl (by rw [put_same _ _ _ (by first | omega | (simp only [put_size]; omega))]) rfl (add_int W _ _ (by omega))) ?_
  refine q_val (d := some (b + 7)) (v := (.slice (some ⟨g, 0, none⟩) n c)) (wanted_none rfl) rfl (fun W hW => x_move rfl (by rw [put_other _ _ _ _ (by omega)]; rw [put_other _ _ _ _ (by omega)]; rw [put_other _ _ _ _ (by omega)]; rw [put_other _ _ _ _ (by omega)]; rw [put_other _ _ _ _ (by omega)]; rw [put_other _ _ _ _ (by omega)]; rw [put_other _ _ _ _ (by omega)]; exact e0)) ?_
  refine q_val (d := some (b + 8)) (v := (.int .i64 i)) (wanted_none rfl) rfl (fun W hW => x_move rfl (by rw [put_other _ _ _ _ (by omega)]; rw [put_other _ _ _ _ (by omega)]; rw [put_other _ _ _ _ (by omega)]; rw [put_other _ _ _ _ (by omega)]; rw [put_other _ _ _ _ (by omega)]; rw [put_other _ _ _ _ (by omega)]; rw [put_other _ _ _ _ (by omega)]; rw [put_other _ _ _ _ (by omega)]; exact e5)) ?_
  refine q_val (d := some (b + 9)) (v := (.pointer (some ⟨g, i, none⟩))) (wanted_none rfl) rfl (fun W hW => x_index rfl (by rw [put_other _ _ _ _ (by omega)]; rw [put_same _ _ _ (by first | omega | (simp only [put_size]; omega))]) (by rw [put_same _ _ _ (by first | omega | (simp only [put_size]; omega))]) (run_idx24 W g n c i hi)) ?_
  refine q_val (d := some (b + 10)) (v := (.slice Ak m ck)) (wanted_none rfl) rfl (fun W hW => exec_load rfl (by rw [put_same _ _ _ (by first | omega | (simp only [put_size]; omega))]) (load23 (cc W hW))) ?_
  refine q_val (d := some (b + 11)) (v := (.int .i64 m)) (wanted_none rfl) rfl (fun W hW => x_len rfl (by rw [put_same _ _ _ (by first | omega | (simp only [put_size]; omega))]) (len23 W _ Ak m ck)) ?_
  refine q_val (d := some (b + 12)) (v := (.int .i64 (min ((at_ : Int) + 26) m))) (wanted_none rfl) rfl (fun W hW => x_min rfl (by rw [put_other _ _ _ _ (by omega)]; rw [put_other _ _ _ _ (by omega)]; rw [put_other _ _ _ _ (by omega)]; rw [put_other _ _ _ _ (by omega)]; rw [put_other _ _ _ _ (by omega)]; rw [put_same _ _ _ (by first | omega | (simp only [put_size]; omega))]) (by rw [put_same _ _ _ (by first | omega | (simp only [put_size]; omega))])) ?_
  refine q_val (d := some (b + 13)) (v := (.slice (if ck = at_ then Ak else Ak.map (·.add at_)) (min (at_ + 26) m - at_) (ck - at_))) (wanted_none rfl) rfl (fun W hW => x_slice rfl (by rw [put_other _ _ _ _ (by omega)]; rw [put_other _ _ _ _ (by omega)]; rw [put_other _ _ _ _ (by omega)]; rw [put_other _ _ _ _ (by omega)]; rw [put_other _ _ _ _ (by omega)]; rw [put_other _ _ _ _ (by omega)]; rw [put_other _ _ _ _ (by omega)]; rw [put_other _ _ _ _ (by omega)]; rw [put_other _ _ _ _ (by omega)]; rw [put_same _ _ _ (by first | omega | (simp only [put_size]; omega))]) (by rw [put_other _ _ _ _ (by omega)]; rw [put_other _ _ _ _ (by omega)]; rw [put_other _ _ _ _ (by omega)]; rw [put_other _ _ _ _ (by omega)]; rw [put_other _ _ _ _ (by omega)]; rw [put_other _ _ _ _ (by omega)]; rw [put_other _ _ _ _ (by omega)]; rw [put_other _ _ _ _ (by omega)]; rw [put_same _ _ _ (by first | omega | (simp only [put_size]; omega))]) (by rw [put_same _ _ _ (by first | omega | (simp only [put_size]; omega))]) (run_part W Ak m ck at_ hat hck)) ?_
  refine q_val (d := some sd) (v := (.slice (if ck = at_ then Ak else Ak.map (·.add at_)) (min (at_ + 26) m - at_) (ck - at_))) (wanted_none rfl) rfl (fun W hW => x_assign rfl (by rw [put_same _ _ _ (by first | omega | (simp only [put_size]; omega))])) ?_
  refine q_nil (fun W hW => ?_)
  obtain ⟨k, rfl⟩ := hW
  exact K _ _ _ _ _ _ _ _ _ _ _ _ _ _ k
end Go.Proofs.Ytabnlnhnefjebaa
