/-
  Chapter 41: Bytes of the program. The memory is that of the given program; no conditions.
-/
import Derived.Test.YtabnlnhnefjebaaSt3
namespace Go.Proofs.Ytabnlnhnefjebaa
open Go.RowKit
set_option linter.unusedVariables false
set_option linter.unusedSimpArgs false
/-- n zeros -/
def zeroN (n : Nat) : List Int := List.replicate n 0
theorem zeroN_len (n : Nat) : (zeroN n).length = n := by simp [zeroN]
theorem zeroN_ok (n : Nat) : byteOk (zeroN n) := byteOk_rep n 0 (by omega) (by omega)
theorem u8s_zeroN (n : Nat) : u8s (zeroN n) = List.replicate n (Value.int .u8 0) := by simp [u8s, zeroN]
theorem made_bytes (w : World) (n : Nat) (hn : n ≤ 100000000) : ∃ w', (Instr.makeSlice 23 (.int .i64 (n : Int)) (.int .i64 (n : Int))).run Try.prog w = .ok (.slice (some ⟨w.heap.size, 0, none⟩) n n) w' ∧ Blk w' w.heap.size 5 (u8s (zeroN n)).toArray ∧ Below w.heap.size w w' := by
  obtain ⟨i0, hi, hz0, hz1, hz2⟩ := info_parts row5
  obtain ⟨w', r1, r2, r3⟩ := run_make_full (P := Try.prog) w w.heap.size 23 5 i0 _ 1 und23 hi hz0 hz1 .i64 .i64 n (by rw [hz2]; omega) (by unfold maxLen; omega) (Nat.le_refl _)
  refine ⟨w', r1, ?_, ⟨r3.os, r3.tape, r3.output, r3.size, fun i hi => r3.block i hi (by simp)⟩⟩
  rcases r2.2 with ⟨h, _⟩ | ⟨g, cap, cur, h1, h2, h3, h4, h5, h6, h7⟩
  · cases h
  · injection h1 with a1 a2 a3
    injection a1 with a1
    injection a1 with a1 _ _
    subst a1 a3
    have e1 : (Value.int .u8 0).cells = #[.int .u8 0] := rfl
    rw [e1, toList_madeCells_one, Nat.mul_one, List.take_of_length_le (by rw [Array.length_toList, h6, Nat.mul_one]; exact Nat.le_refl _)] at h7
    unfold Blk
    rw [h3, u8s_zeroN, ← h7]
theorem wpList_make23 {ops : Array Oper} {rest : List Oper} {o : Oper} {a : Act} {w : World} {Q : Exit → Act → World → Prop} (hgd : o.guard = none) (x : Operand) (ho : o.op = .makeSlice 23 x x) (n : Nat) (v : Int) (hx : a.eval x = .int .i64 v) (hv : Hid (v = (n : Int))) (hn : Hid (n ≤ 100000000))
    (h : ∀ g w', Hid (g = w.heap.size) → Hid (Blk w' g 5 (u8s (zeroN n)).toArray) → Hid (Below w.heap.size w w') → wpList Try.prog ops Q rest (a.put o.dst (.slice (some ⟨g, 0, none⟩) n n)) w') : wpList Try.prog ops Q (o :: rest) a w := by
  obtain ⟨w', r1, r2, r3⟩ := made_bytes w n hn.out
  refine wpList_val hgd _ _ ?_ (h _ w' (Lib.hid rfl) (Lib.hid r2) (Lib.hid r3))
  unfold execOp
  simp only [ho, hx, hv.out, Sem.run_bind, r1, Sem.run_pure, Result.andThen_ok]
/-- what lies in the row behind k blocks -/
def bcur (B : List (List Int)) (k : Nat) : List Int := (B.take k).flatten ++ zeroN ((B.length - k) * 32)
theorem bcur_zero (B : List (List Int)) : bcur B 0 = zeroN (B.length * 32) := by simp [bcur]
theorem bcur_full (B : List (List Int)) : bcur B B.length = B.flatten := by simp [bcur, zeroN]
theorem bcur_len (B : List (List Int)) (hB : blocksOk B) (k : Nat) (hk : k ≤ B.length) : (bcur B k).length = B.length * 32 := by
  unfold bcur
  rw [List.length_append, flat_len _ (fun x hx => (hB x (List.mem_of_mem_take hx)).1), List.length_take, Nat.min_eq_left hk, zeroN_len, ← Nat.add_mul]
  congr 1
  omega
theorem flat_snoc' (B : List (List Int)) (F : List Int) : (B ++ [F]).flatten = B.flatten ++ F := by simp
theorem bel_nextB {wr w1 w2 w3 : World} {g : Nat} {o : Obj} (h1 : Hid (Below wr.heap.size wr w1)) (hg : Hid (g = w1.heap.size)) (h2 : Hid (w2 = w1.alloc o)) (h3 : Hid (Only g w2 w3)) : Below wr.heap.size wr w3 := by
  have b1 : Below wr.heap.size wr w2 := by rw [h2.out]; exact (h1.out).alloc (h1.out).size _
  exact b1.trans ((h3.out).below b1.size (by rw [hg.out]; exact (h1.out).size))
theorem bcur_next (B : List (List Int)) (hB : blocksOk B) (k : Nat) (hk : k < B.length) : splice (u8s (bcur B k)) (k * 32) (u8s B[k]) = u8s (bcur B (k + 1)) := by
  have h1 : (B.take k).flatten.length = k * 32 := by rw [flat_len _ (fun x hx => (hB x (List.mem_of_mem_take hx)).1), List.length_take, Nat.min_eq_left (by omega)]
  have hx := (hB B[k] (List.getElem_mem hk)).1
  unfold bcur splice
  rw [u8s_app, List.take_append_of_le_length (by rw [u8s_len, h1]; omega), List.take_of_length_le (by rw [u8s_len, h1]; omega), u8s_len, hx, List.drop_append, u8s_len, h1, List.drop_of_length_le (by rw [u8s_len, h1]; omega), List.nil_append, u8s_zeroN, List.drop_replicate, take_snoc B k hk, flat_snoc', u8s_app, u8s_app, u8s_zeroN]
  rw [List.append_assoc]
  congr 2
  congr 1
  omega
/-- bytes that were made anew -/
def NewBlk (l : List Int) (n : Nat) (w : World) (e : Ending) (w' : World) : Prop := ∃ g, e = .returned (.slice (some ⟨g, 0, none⟩) n n) ∧ w.heap.size ≤ g ∧ Blk w' g 5 (u8s l).toArray ∧ l.length = n ∧ Below w.heap.size w w'
theorem newBlk_row {l : List Int} {n : Nat} {w w' : World} {e : Ending} (h : NewBlk l n w e w') (hn : n ≤ 100000000) : NewRow 5 1 n (u8s l) w e w' := by
  obtain ⟨g, h1, h2, h3, h4, h5⟩ := h
  refine ⟨_, _, h1, ⟨by rw [u8s_len, h4, Nat.mul_one], .inr ⟨g, n, (u8s l).toArray, rfl, h2, h3, Nat.le_refl _, by unfold maxLen; omega, by simp [u8s_len, h4], ?_⟩⟩, h5⟩
  rw [List.take_of_length_le (by simp [u8s_len, h4])]
set_option maxHeartbeats 1600000 in
theorem bytes_any (p : Nat) (own : Option Nat) (B : List (List Int)) (sy : Nat) (w : World) (h : St w p own B sy) :
    Calls Try.prog 30 #[.pointer (some ⟨p, 0, none⟩)] w (NewBlk B.flatten (B.length * 32) w) := by
  obtain ⟨A, c, h⟩ := h
  have HS := Lib.hid h
  have x0 := h.box.cell 0
  have hl := h.len
  have HPL := Lib.hid h.box.lt
  simp at x0
  obtain ⟨N, HN⟩ : ∃ N, Hid (N = B.length) := ⟨_, Lib.hid rfl⟩
  rw [← HN.out] at x0 hl ⊢
  clear h
  have HV : Hid ((N : Int) * 32 = ((N * 32 : Nat) : Int)) := Lib.hid (by omega)
  have HV2 : Hid (N * 32 ≤ 100000000) := Lib.hid (by omega)
  go_enter Try.func30, Try.ntmps30
  go_upto_region 4 with (refine wpList_make23 rfl (.tmp 13) rfl (N * 32) _ rfl HV HV2 ?_; intro go w1 Hgo Hb1 Hbel1)
  have y0 : w1.cell? ⟨p, 0, none⟩ = some (.slice A N c) := by rw [← x0]; exact (Hbel1.out).cell HPL.out
  go_wp2
  clear x0 y0
  go_loopw [20] (fun i wr => ∃ k : Nat, k ≤ N ∧ i = .int .i64 k ∧ Blk wr go 5 (u8s (bcur B k)).toArray ∧ Below w.heap.size w wr) (fun i _ => N - (intOf i).toNat)
  case atStart => exact ⟨0, Nat.zero_le _, rfl, by rw [bcur_zero, ← HN.out]; exact Hb1.out, Hbel1.out⟩
  case round =>
    obtain ⟨k, hk, rfl, hbk, hbl⟩ := hrel
    have HBK := Lib.hid hbk
    have HBL := Lib.hid hbl
    clear hbk hbl
    by_cases hlt : k < N
    · have hkB : k < B.length := by rw [← HN.out]; omega
      obtain ⟨g, rfl, hg, _⟩ := (HS.out).addr (by omega)
      have HR : Hid (wr.rangeAt g (k * 32) (u8s B[k])) := Lib.hid (range_below ((HS.out).range hkB rfl) hg (HBL.out))
      have HX := len32 (HS.out).ok hkB
      have HSP := Lib.hid (bcur_next B (HS.out).ok k hkB)
      have HCL := Lib.hid (bcur_len B (HS.out).ok k (by omega))
      obtain ⟨x, Hx⟩ : ∃ x, Hid (x = B[k]) := ⟨_, Lib.hid rfl⟩
      rw [← Hx.out] at HR HX HSP
      have hgo : w.heap.size ≤ go := by rw [Hgo.out]; exact Nat.le_refl _
      go_upto_region 7 with (first
        | (refine wpList_load_mid rfl 61 (.tmp 23) rfl g (k * 32) rfl (u8s x) _ HR.out und61 rfl (info_32l HX) ?_)
        | (refine wpList_alloc_arr rfl 61 rfl _ zero61 ?_; intro g5 w2 Hg5 Hw2)
        | (refine wpList_store_blk rfl 61 (.tmp 5) (.tmp 24) rfl g5 _ _ 61 (blk_of Hg5 Hw2) rfl rfl (info_32 HX) (size_32 HX) (u8s_all _) ?_; intro w3 Hb3 Ho3))
      have HBK3 : Hid (Blk w3 go 5 (u8s (bcur B k)).toArray) := Lib.hid (by
        have h1 : Blk w2 go 5 (u8s (bcur B k)).toArray := by rw [Hw2.out]; exact (HBK.out).alloc _
        exact h1.grown Ho3.out (fun e => by injection e with e; have := (HBK.out).lt; rw [Hg5.out] at e; omega))
      have HBL3 : Hid (Below w.heap.size w w3) := Lib.hid ((HBL.out).trans ((bel_nextB (Lib.hid (Below.refl _ _)) Hg5 Hw2 Ho3).mono (HBL.out).size))
      have hm1 : (k : Int) * 32 ≤ ((N * 32 : Nat) : Int) := by omega
      have hm2 : IntKind.i64.wrap ((k : Int) * 32) = (k : Int) * 32 := IntWalk.i64_in _ (by omega)
      have hm3 : (0 : Int) ≤ (k : Int) * 32 := by omega
      have hm4 : ((k : Int) * 32).toNat = k * 32 := by omega
      have hm5 : ¬ N * 32 = k * 32 := by omega
      clear HR HBK HBL
      go_still_tail 5, (by kernel_rfl)
      change wpList _ _ _ _ _ w3.drew
      clear hm1 hm2 hm3 hm4 hm5
      refine wpList_copy_splice rfl (.tmp 28) (.tmp 29) 23 23 rfl 5 und23 size5 _ _ _ _ _ _ rfl rfl go (k * 32) _ 5 (HBK3.out).drew (u8s x) ?_ (fun h0 => ⟨rfl, _, rfl, ?_⟩) ?_ (u8s_one _) w.heap.size w (below_drewN HBL3.out 1) hgo ?_
      · rw [u8s_len, HX.out]; exact (Nat.min_eq_left (by omega)).symm
      · intro j v hv
        rw [Go.WideShapes.add_plain, Nat.zero_add, (Hb3.out).drew.cell]
        simpa using hv
      · rw [u8s_len, u8s_len, HX.out, HCL.out, ← HN.out]; omega
      intro w4 Hb4 hbl4
      have HBK4 : Hid (Blk w4 go 5 (u8s (bcur B (k + 1))).toArray) := Lib.hid (by rw [← HSP.out]; exact Hb4.out)
      have HBL4 := Lib.hid hbl4
      clear hbl4 Hb4 HSP HCL
      go_wp2
      go_roundw
      case rel => exact ⟨k + 1, by omega, by go_num, HBK4.out, HBL4.out⟩
      case measure => simp [intOf]; omega
    · obtain rfl : k = N := by omega
      have HF : Hid (Blk wr go 5 (u8s B.flatten).toArray) := Lib.hid (by
        have := HBK.out
        rw [HN.out, bcur_full] at this
        exact this)
      have HFL : Hid (B.flatten.length = k * 32) := Lib.hid (by rw [flat_len _ (fun x hx => ((HS.out).ok x hx).1), HN.out])
      go_wp2
      go_ret
      exact ⟨go, rfl, by rw [Hgo.out]; exact Nat.le_refl _, HF.out, HFL.out, HBL.out⟩
end Go.Proofs.Ytabnlnhnefjebaa
