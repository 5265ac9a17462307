/-
  Chapter 41: Same of the reference, at equal lists. The memory is that of the given program; no conditions.
-/
import Derived.Test.YtabnlnhnefjebaaRf5
import Derived.Test.YtabnlnhnefjebaaStr
namespace Go.Proofs.Ytabnlnhnefjebaa
open Go.RowKit
set_option linter.unusedVariables false
set_option linter.unusedSimpArgs false
theorem neq_str (w : World) (s : ByteArray) : (binOp .neq 9 (.string s) (.string s)).run Try.prog w = .ok (.bool false) w := by
  simp [binOp, go_sem, und9, Op.stringOp]
theorem eql_str (w : World) (s : ByteArray) : (binOp .eql 9 (.string s) (.string s)).run Try.prog w = .ok (.bool true) w := by
  simp [binOp, go_sem, und9, Op.stringOp]
section
variable {o : Oper} {a : Act} {w : World}
theorem x_conv {P : Program} {x : Operand} {t t' : TypeId} {u v : Value} (ho : o.op = .convert t t' x) (hx : a.eval x = u) (hr : (convert t t' u).run P w = .ok v w) : (execOp a.eval o).run P w = .ok (.value v) w := by
  unfold execOp; simp only [ho, hx, Sem.run_bind, hr, Sem.run_pure, Result.andThen_ok]
theorem x_neqs {x y : Operand} {t' : TypeId} {s : ByteArray} (ho : o.op = .binOp .neq 9 x y t') (hx : a.eval x = .string s) (hy : a.eval y = .string s) : (execOp a.eval o).run Try.prog w = .ok (.value (.bool false)) w := by
  have hg : (eqGuard .neq 9 x y (.string s) (.string s)).run Try.prog w = .ok () w := by simp [eqGuard]
  unfold execOp
  simp only [ho, hx, hy, Sem.run_bind, hg, neq_str, Sem.run_pure, Result.andThen_ok]
end
set_option maxHeartbeats 1600000 in
theorem same_region {Q : Exit → Act → World → Prop} {a : Act} {w : World} (id b s0 s1 s5 : Nat) {y0 y1 y2 y3 y4 y5 y6 y7 y8 y9 y10 : TypeId} {q0 q1 q2 q3 q4 q5 q6 q7 q8 q9 q10 : String} {f0 f1 f2 f3 f4 f5 f6 f7 f8 f9 f10 : Array Edge} (hlex : Region.lexB .any ([⟨(some b), .move (.tmp s0), y0, q0, f0, none⟩, ⟨(some (b + 1)), .move (.tmp s5), y1, q1, f1, none⟩, ⟨(some (b + 2)), .indexAddr 24 (.tmp b) (.tmp (b + 1)), y2, q2, f2, none⟩, ⟨(some (b + 3)), .load 23 (.tmp (b + 2)), y3, q3, f3, none⟩, ⟨(some (b + 4)), .convert 23 9 (.tmp (b + 3)), y4, q4, f4, none⟩, ⟨(some (b + 5)), .move (.tmp s1), y5, q5, f5, none⟩, ⟨(some (b + 6)), .move (.tmp s5), y6, q6, f6, none⟩, ⟨(some (b + 7)), .indexAddr 24 (.tmp (b + 5)) (.tmp (b + 6)), y7, q7, f7, none⟩, ⟨(some (b + 8)), .load 23 (.tmp (b + 7)), y8, q8, f8, none⟩, ⟨(some (b + 9)), .convert 23 9 (.tmp (b + 8)), y9, q9, f9, none⟩, ⟨(some (b + 10)), .binOp .neq 9 (.tmp (b + 4)) (.tmp (b + 9)) 9, y10, q10, f10, none⟩] : List Oper).toArray = true)
    (hs0 : s0 < b) (hs1 : s1 < b) (hs5 : s5 < b) (hsz : b + 10 < a.tmps.size) (g n c g' n' c' i m ck m' ck' : Nat) (Ak Ak' : Option Addr) (s : ByteArray) (e0 : a.eval (.tmp s0) = (.slice (some ⟨g, 0, none⟩) n c)) (e1 : a.eval (.tmp s1) = (.slice (some ⟨g', 0, none⟩) n' c')) (e5 : a.eval (.tmp s5) = .int .i64 i)
    (hi : i < n) (hi' : i < n') (hca : w.cell? ⟨g, i, none⟩ = some (.slice Ak m ck)) (hcb : w.cell? ⟨g', i, none⟩ = some (.slice Ak' m' ck'))
    (hva : (convert 23 9 (.slice Ak m ck)).run Try.prog w = .ok (.string s) w) (hva' : ∀ k, (convert 23 9 (.slice Ak m ck)).run Try.prog (w.drewN k) = .ok (.string s) (w.drewN k)) (hvb : ∀ k, (convert 23 9 (.slice Ak' m' ck')).run Try.prog (w.drewN k) = .ok (.string s) (w.drewN k))
    (K : ∀ z0 z1 z2 z3 z4 z5 z6 z7 z8 z9 nq, Q .normal (((((((((((a.put (some b) z0).put (some (b + 1)) z1).put (some (b + 2)) z2).put (some (b + 3)) z3).put (some (b + 4)) z4).put (some (b + 5)) z5).put (some (b + 6)) z6).put (some (b + 7)) z7).put (some (b + 8)) z8).put (some (b + 9)) z9).put (some (b + 10)) (.bool false)) (w.drewN nq)) : (Code.region id ([⟨(some b), .move (.tmp s0), y0, q0, f0, none⟩, ⟨(some (b + 1)), .move (.tmp s5), y1, q1, f1, none⟩, ⟨(some (b + 2)), .indexAddr 24 (.tmp b) (.tmp (b + 1)), y2, q2, f2, none⟩, ⟨(some (b + 3)), .load 23 (.tmp (b + 2)), y3, q3, f3, none⟩, ⟨(some (b + 4)), .convert 23 9 (.tmp (b + 3)), y4, q4, f4, none⟩, ⟨(some (b + 5)), .move (.tmp s1), y5, q5, f5, none⟩, ⟨(some (b + 6)), .move (.tmp s5), y6, q6, f6, none⟩, ⟨(some (b + 7)), .indexAddr 24 (.tmp (b + 5)) (.tmp (b + 6)), y7, q7, f7, none⟩, ⟨(some (b + 8)), .load 23 (.tmp (b + 7)), y8, q8, f8, none⟩, ⟨(some (b + 9)), .convert 23 9 (.tmp (b + 8)), y9, q9, f9, none⟩, ⟨(some (b + 10)), .binOp .neq 9 (.tmp (b + 4)) (.tmp (b + 9)) 9, y10, q10, f10, none⟩] : List Oper).toArray true).wp Try.prog Q a w := by
  refine wp_region_quietC (C := fun W => ∃ k, W = w.drewN k) (by kernel_rfl) hlex ⟨1, rfl⟩ ?_
  have ca : ∀ W, (∃ k, W = w.drewN k) → W.cell? ⟨g, i, none⟩ = some (.slice Ak m ck) := fun W hW => by
    obtain ⟨k, rfl⟩ := hW
    exact hca
  have cb : ∀ W, (∃ k, W = w.drewN k) → W.cell? ⟨g', i, none⟩ = some (.slice Ak' m' ck') := fun W hW => by
    obtain ⟨k, rfl⟩ := hW
    exact hcb
  have va : ∀ W, (∃ k, W = w.drewN k) → (convert 23 9 (.slice Ak m ck)).run Try.prog W = .ok (.string s) W := fun W hW => by
    obtain ⟨k, rfl⟩ := hW
    exact hva' k
  have vb : ∀ W, (∃ k, W = w.drewN k) → (convert 23 9 (.slice Ak' m' ck')).run Try.prog W = .ok (.string s) W := fun W hW => by
    obtain ⟨k, rfl⟩ := hW
    exact hvb k
  refine q_val (d := some b) (v := (.slice (some ⟨g, 0, none⟩) n c)) (wanted_none rfl) rfl (fun W hW => x_move rfl (by exact e0)) ?_
  refine q_val (d := some (b + 1)) (v := (.int .i64 i)) (wanted_none rfl) rfl (fun W hW => x_move rfl (by rw [put_other _ _ _ _ (by omega)]; exact e5)) ?_
  refine q_val (d := some (b + 2)) (v := (.pointer (some ⟨g, i, none⟩))) (wanted_none rfl) rfl (fun W hW => x_index rfl (by rw [put_other _ _ _ _ (by omega)]; rw [put_same _ _ _ (by first | omega | (simp only [put_size]; omega))]) (by rw [put_same _ _ _ (by first | omega | (simp only [put_size]; omega))]) (run_idx24 W g n c i hi)) ?_
  refine q_val (d := some (b + 3)) (v := (.slice Ak m ck)) (wanted_none rfl) rfl (fun W hW => exec_load rfl (by rw [put_same _ _ _ (by first | omega | (simp only [put_size]; omega))]) (load23 (ca W hW))) ?_
  refine q_val (d := some (b + 4)) (v := (.string s)) (wanted_none rfl) rfl (fun W hW => x_conv rfl (by rw [put_same _ _ _ (by first | omega | (simp only [put_size]; omega))]) (va W hW)) ?_
  refine q_val (d := some (b + 5)) (v := (.slice (some ⟨g', 0, none⟩) n' c')) (wanted_none rfl) rfl (fun W hW => x_move rfl (by rw [put_other _ _ _ _ (by omega)]; rw [put_other _ _ _ _ (by omega)]; rw [put_other _ _ _ _ (by omega)]; rw [put_other _ _ _ _ (by omega)]; rw [put_other _ _ _ _ (by omega)]; exact e1)) ?_
  refine q_val (d := some (b + 6)) (v := (.int .i64 i)) (wanted_none rfl) rfl (fun W hW => x_move rfl (by rw [put_other _ _ _ _ (by omega)]; rw [put_other _ _ _ _ (by omega)]; rw [put_other _ _ _ _ (by omega)]; rw [put_other _ _ _ _ (by omega)]; rw [put_other _ _ _ _ (by omega)]; rw [put_other _ _ _ _ (by omega)]; exact e5)) ?_
  refine q_val (d := some (b + 7)) (v := (.pointer (some ⟨g', i, none⟩))) (wanted_none rfl) rfl (fun W hW => x_index rfl (by rw [put_other _ _ _ _ (by omega)]; rw [put_same _ _ _ (by first | omega | (simp only [put_size]; omega))]) (by rw [put_same _ _ _ (by first | omega | (simp only [put_size]; omega))]) (run_idx24 W g' n' c' i hi')) ?_
  refine q_val (d := some (b + 8)) (v := (.slice Ak' m' ck')) (wanted_none rfl) rfl (fun W hW => exec_load rfl (by rw [put_same _ _ _ (by first | omega | (simp only [put_size]; omega))]) (load23 (cb W hW))) ?_
  refine q_val (d := some (b + 9)) (v := (.string s)) (wanted_none rfl) rfl (fun W hW => x_conv rfl (by rw [put_same _ _ _ (by first | omega | (simp only [put_size]; omega))]) (vb W hW)) ?_
  refine q_val (d := some (b + 10)) (v := (.bool false)) (wanted_none rfl) rfl (fun W hW => x_neqs rfl (by rw [put_other _ _ _ _ (by omega)]; rw [put_other _ _ _ _ (by omega)]; rw [put_other _ _ _ _ (by omega)]; rw [put_other _ _ _ _ (by omega)]; rw [put_other _ _ _ _ (by omega)]; rw [put_same _ _ _ (by first | omega | (simp only [put_size]; omega))]) (by rw [put_same _ _ _ (by first | omega | (simp only [put_size]; omega))])) ?_
  refine q_nil (fun W hW => ?_)
  obtain ⟨k, rfl⟩ := hW
  exact K _ _ _ _ _ _ _ _ _ _ k
end Go.Proofs.Ytabnlnhnefjebaa
