/-
  Chapter 41: Crash of the program. The memory is that of the given program; no conditions.
-/
import Derived.Test.YtabnlnhnefjebaaSt7
import Derived.Outline
namespace Go.Proofs.Ytabnlnhnefjebaa
open Go.RowKit
set_option linter.unusedVariables false
set_option linter.unusedSimpArgs false
theorem wpList_max2 {P : Program} {ops : Array Oper} {rest : List Oper} {o : Oper} {a : Act} {w : World} {Q : Exit → Act → World → Prop} (hgd : o.guard = none) (x y : Operand) (ts : Array TypeId) (ho : o.op = .call { callee := .builtin .max, args := #[x, y], argTypes := ts }) (k : IntKind) (m n : Int) (hx : a.eval x = .int k m) (hy : a.eval y = .int k n)
    (h : ∀ v : Int, Hid (v = max m n) → wpList P ops Q rest (a.put o.dst (.int k v)) w) : wpList P ops Q (o :: rest) a w := by
  refine wpList_val hgd (.int k (max m n)) w ?_ (h _ (Lib.hid rfl))
  have e : (if n > m then n else m) = max m n := by
    rcases Int.lt_or_le m n with h | h
    · rw [if_pos h]; omega
    · rw [if_neg (by omega)]; omega
  unfold execOp
  simp only [ho, resolve, invoke, builtin, Sem.run_bind, Sem.run_pure, Result.andThen_ok, List.map_toArray, List.map_cons, List.map_nil, hx, hy, run_max_int2, e]
theorem wpList_min2 {P : Program} {ops : Array Oper} {rest : List Oper} {o : Oper} {a : Act} {w : World} {Q : Exit → Act → World → Prop} (hgd : o.guard = none) (x y : Operand) (ts : Array TypeId) (ho : o.op = .call { callee := .builtin .min, args := #[x, y], argTypes := ts }) (k : IntKind) (m n : Int) (hx : a.eval x = .int k m) (hy : a.eval y = .int k n)
    (h : ∀ v : Int, Hid (v = min m n) → wpList P ops Q rest (a.put o.dst (.int k v)) w) : wpList P ops Q (o :: rest) a w := by
  refine wpList_val hgd (.int k (min m n)) w ?_ (h _ (Lib.hid rfl))
  have e : (if n < m then n else m) = min m n := by
    rcases Int.lt_or_le n m with h | h
    · rw [if_pos h]; omega
    · rw [if_neg (by omega)]; omega
  unfold execOp
  simp only [ho, resolve, invoke, builtin, Sem.run_bind, Sem.run_pure, Result.andThen_ok, List.map_toArray, List.map_cons, List.map_nil, hx, hy, run_min_int2, e]
theorem zero5 (w : World) : (zeroValue 5).run Try.prog w = .ok (.int .u8 0) w := by kernel_rfl
theorem wpList_clear {ops : Array Oper} {rest : List Oper} {o : Oper} {a : Act} {w : World} {Q : Exit → Act → World → Prop} (hgd : o.guard = none) (x : Operand) (ho : o.op = .call { callee := .builtin .clear, args := #[x], argTypes := #[23] })
    (g off n c : Nat) (hx : a.eval x = .slice (some ⟨g, off, none⟩) n c) (hn : 0 < n) (t : TypeId) (cur : List Value) (hg : Blk w g t cur.toArray) (hfit : off + n ≤ cur.length)
    (h : ∀ w', Hid (Blk w' g t (splice cur off (u8s (zeroN n))).toArray) → Hid (Only g w w') → wpList Try.prog ops Q rest (a.put o.dst (.tuple #[])) w') : wpList Try.prog ops Q (o :: rest) a w := by
  have hzc : (Builtin.zeroCells (Value.int .u8 0).cells n).toList = u8s (zeroN n) := by
    rw [u8s_zeroN]
    have e : (Value.int .u8 0).cells = #[.int .u8 0] := rfl
    rw [e]
    simp [Builtin.zeroCells]
    apply List.ext_getElem
    · simp
    · intro i h1 h2
      simp [Nat.mod_one]
  have hst := run_storeCells_at Try.prog g off t (u8s (zeroN n)) 0 cur.toArray w hg (by simpa [u8s_len, zeroN_len] using hfit) (u8s_one _)
  have hrun : (Builtin.clear_ #[23] o.type #[.slice (some ⟨g, off, none⟩) n c]).run Try.prog w = .ok (.tuple #[]) (w.setRow g (splice cur off (u8s (zeroN n))).toArray) := by
    obtain ⟨m, rfl⟩ : ∃ m, n = m + 1 := ⟨n - 1, by omega⟩
    simp only [Nat.add_zero] at hst
    simp [Builtin.clear_, run_underlying und23, zero5, hzc, hst, splice]
  refine wpList_val hgd _ _ ?_ (h _ (Lib.hid (setRow_heap w g _ _ t _ hg)) (Lib.hid ⟨rfl, rfl, rfl, by simp [World.setRow], fun k _ hne => setRow_other w g k _ (fun e => hne (by rw [e]))⟩))
  unfold execOp
  simp only [ho, resolve, invoke, builtin, Sem.run_bind, Sem.run_pure, Result.andThen_ok, List.map_toArray, List.map_cons, List.map_nil, hx, hrun]
/-- which blocks survive -/
def wbit (which : Int) (j : Nat) : Bool := bits .and .u64 (which / 2 ^ (j % 64)) 1 == 1
def keepOf (torn : Int) : Nat := (min (max torn 0) 31).toNat
theorem keepOf_le (torn : Int) : keepOf torn ≤ 31 := by unfold keepOf; omega
/-- the state of Crash's loop -/
structure CrL (B T : List (List Int)) (sy : Nat) (bit : Nat → Bool) (k j : Nat) (D : List (List Int)) : Prop where
  tot : D ++ crashL bit (j - sy) k (B.drop j) = T
  len : D.length = j
  ok : ∀ x ∈ D, x.length = 32
  k31 : k ≤ 31
  sj : sy ≤ j
section
variable {B T : List (List Int)} {sy : Nat} {bit : Nat → Bool} {k j : Nat} {D : List (List Int)}
theorem drop_cons' (B : List (List Int)) (j : Nat) (hj : j < B.length) : B.drop j = B[j] :: B.drop (j + 1) := List.drop_eq_getElem_cons hj
theorem CrL.keep (h : CrL B T sy bit k j D) (hB : blocksOk B) (hj : j < B.length) (hb : bit (j - sy) = true) : CrL B T sy bit k (j + 1) (D ++ [B[j]]) := by
  refine ⟨?_, by rw [List.length_append, h.len]; rfl, ?_, h.k31, by have := h.sj; omega⟩
  · rw [← h.tot, drop_cons' B j hj, crashL, if_pos hb, show j + 1 - sy = j - sy + 1 by have := h.sj; omega]
    simp
  · intro x hx
    rcases List.mem_append.1 hx with hx | hx
    · exact h.ok x hx
    · simp at hx; subst hx; exact (hB _ (List.getElem_mem hj)).1
theorem CrL.lose (h : CrL B T sy bit k j D) (hB : blocksOk B) (hj : j < B.length) (hb : bit (j - sy) = false) : CrL B T sy bit 0 (j + 1) (D ++ [B[j].take k ++ List.replicate (32 - k) 0]) := by
  have hx := (hB _ (List.getElem_mem hj)).1
  have hk := h.k31
  refine ⟨?_, by rw [List.length_append, h.len]; rfl, ?_, by omega, by have := h.sj; omega⟩
  · rw [← h.tot, drop_cons' B j hj, crashL, if_neg (by rw [hb]; simp), show j + 1 - sy = j - sy + 1 by have := h.sj; omega]
    simp
  · intro x hx'
    rcases List.mem_append.1 hx' with hx' | hx'
    · exact h.ok x hx'
    · simp at hx'; subst hx'; simp; omega
theorem CrL.row_keep (hj : j < B.length) : (D ++ [B[j]]) ++ B.drop (j + 1) = D ++ B.drop j := by rw [drop_cons' B j hj]; simp
theorem splice_lose (D R : List (List Int)) (x : List Int) (k : Nat) (hD : ∀ y ∈ D, y.length = 32) (hx : x.length = 32) (hk : k ≤ 31) :
    splice (u8s (D ++ x :: R).flatten) (D.length * 32 + k) (u8s (zeroN (32 - k))) = u8s ((D ++ [x.take k ++ List.replicate (32 - k) 0]) ++ R).flatten := by
  have h1 : (u8s D.flatten).length = D.length * 32 := by rw [u8s_len, flat_len D hD]
  have h2 : (u8s x).length = 32 := by rw [u8s_len, hx]
  have e1 : u8s (D ++ x :: R).flatten = u8s D.flatten ++ (u8s x ++ u8s R.flatten) := by simp [u8s]
  have e2 : u8s ((D ++ [x.take k ++ List.replicate (32 - k) 0]) ++ R).flatten = u8s D.flatten ++ ((u8s x).take k ++ (u8s (zeroN (32 - k)) ++ u8s R.flatten)) := by simp [u8s, zeroN, List.map_take]
  rw [e1, e2]
  generalize u8s D.flatten = d at *
  generalize u8s x = y at *
  generalize u8s R.flatten = r at *
  unfold splice
  rw [u8s_len, zeroN_len, List.take_append, List.drop_append, h1, List.take_of_length_le (by omega), List.drop_of_length_le (by omega), show D.length * 32 + k - D.length * 32 = k by omega, show D.length * 32 + k + (32 - k) - D.length * 32 = 32 by omega, List.take_append_of_le_length (by omega), List.drop_append, List.drop_of_length_le (by omega), h2, Nat.sub_self, List.drop_zero, List.nil_append, List.nil_append, List.append_assoc]
theorem CrL.row_lose (h : CrL B T sy bit k j D) (hB : blocksOk B) (hj : j < B.length) : splice (u8s (D ++ B.drop j).flatten) (j * 32 + k) (u8s (zeroN ((j + 1) * 32 - (j * 32 + k)))) = u8s ((D ++ [B[j].take k ++ List.replicate (32 - k) 0]) ++ B.drop (j + 1)).flatten := by
  have := splice_lose D (B.drop (j + 1)) B[j] k h.ok (hB _ (List.getElem_mem hj)).1 h.k31
  rw [h.len] at this
  rw [drop_cons' B j hj, show (j + 1) * 32 - (j * 32 + k) = 32 - k by omega]
  exact this
theorem CrL.row_len (h : CrL B T sy bit k j D) (hB : blocksOk B) (hj : j ≤ B.length) : (u8s (D ++ B.drop j).flatten).length = B.length * 32 := by
  rw [u8s_len, flat_len _ (fun x hx => by
    rcases List.mem_append.1 hx with hx | hx
    · exact h.ok x hx
    · exact (hB x (List.mem_of_mem_drop hx)).1), List.length_append, h.len, List.length_drop]
  congr 1
  omega
end
set_option maxHeartbeats 3200000 in
theorem crash_any (p : Nat) (own : Option Nat) (B : List (List Int)) (sy : Nat) (which torn : Int) (w : World) (h : St w p own B sy) (h0 : 0 ≤ which) (h1 : which ≤ 18446744073709551615) :
    Calls Try.prog 23 #[.pointer (some ⟨p, 0, none⟩), .int .u64 which, .int .i64 torn] w (NewBlk (crashB (wbit which) (keepOf torn) sy B).flatten (B.length * 32) w) := by
  obtain ⟨A, c, h⟩ := h
  have HS := Lib.hid h
  have x0 := h.box.cell 0
  have x1 := h.box.cell 1
  have hl := h.len
  have hsy := h.syn
  simp at x0 x1
  obtain ⟨N, HN⟩ : ∃ N, Hid (N = B.length) := ⟨_, Lib.hid rfl⟩
  rw [← HN.out] at x0 hl hsy ⊢
  obtain ⟨n32, Hn32⟩ : ∃ n, Hid (n = N * 32) := ⟨_, Lib.hid rfl⟩
  rw [← Hn32.out]
  obtain ⟨T, HT⟩ : ∃ T, Hid (T = crashB (wbit which) (keepOf torn) sy B) := ⟨_, Lib.hid rfl⟩
  rw [← HT.out]
  clear h
  have HBy : ∀ w', St w' p own B sy → Calls Try.prog 30 #[.pointer (some ⟨p, 0, none⟩)] w' (NewBlk B.flatten n32 w') := fun w' h => by rw [Hn32.out, HN.out]; exact bytes_any p own B sy w' h
  have HBY := Lib.hid HBy
  clear HBy
  go_enter Try.func23, Try.ntmps23
  go_upto_region 4 with (go_at_call 30; refine (HBY.out _ ⟨A, c, HS.out⟩).mono ?_; rintro e w1 ⟨go, rfl, hgo, hb1, hl1, hbel1⟩; have Hb1 := Lib.hid hb1; have Hl1 := Lib.hid hl1; have Hbel1 := Lib.hid hbel1; clear hb1 hl1 hbel1)
  have y0 : w1.cell? ⟨p, 0, none⟩ = some (.slice A N c) := by rw [← x0]; exact (Hbel1.out).cell (HS.out).box.lt
  have y1 : w1.cell? ⟨p, 1, none⟩ = some (.int .i64 sy) := by rw [← x1]; exact (Hbel1.out).cell (HS.out).box.lt
  go_upto_region 5 with (first | (refine wpList_max2 rfl (.tmp 14) _ _ rfl .i64 torn 0 rfl rfl ?_; intro k1 Hk1) | (refine wpList_min2 rfl (.tmp 15) _ _ rfl .i64 k1 31 rfl rfl ?_; intro k2 Hk2))
  obtain ⟨k0, Hk0⟩ : ∃ k0, Hid (k0 = keepOf torn) := ⟨_, Lib.hid rfl⟩
  obtain rfl : k2 = (k0 : Int) := by rw [Hk2.out, Hk1.out, Hk0.out]; unfold keepOf; omega
  go_wp2
  clear y0 y1
  go_loopw [8, 9] (fun kp i wr => ∃ (k j : Nat) (D : List (List Int)), kp = .int .i64 k ∧ i = .int .i64 j ∧ j ≤ N ∧ CrL B T sy (wbit which) k j D ∧ Blk wr go 5 (u8s (D ++ B.drop j).flatten).toArray ∧ Below w.heap.size w wr) (fun _ i _ => N - (intOf i).toNat)
  case atStart =>
    refine ⟨k0, sy, B.take sy, rfl, rfl, hsy, ⟨?_, ?_, ?_, by rw [Hk0.out]; exact keepOf_le _, Nat.le_refl _⟩, by rw [List.take_append_drop]; exact Hb1.out, Hbel1.out⟩
    · rw [HT.out, Nat.sub_self, Hk0.out]; rfl
    · rw [List.length_take, ← HN.out]; omega
    · intro x hx; exact ((HS.out).ok x (List.mem_of_mem_take hx)).1
  case round =>
    obtain ⟨k, j, D, rfl, rfl, hj, hC, hbk, hbl⟩ := hrel
    have HC := Lib.hid hC
    have HBK := Lib.hid hbk
    have HBL := Lib.hid hbl
    have hk := hC.k31
    have hsj := hC.sj
    clear hC hbk hbl
    have y0 : wr.cell? ⟨p, 0, none⟩ = some (.slice A N c) := by rw [← x0]; exact (HBL.out).cell (HS.out).box.lt
    have y1 : wr.cell? ⟨p, 1, none⟩ = some (.int .i64 sy) := by rw [← x1]; exact (HBL.out).cell (HS.out).box.lt
    clear x0 x1
    by_cases hlt : j < N
    · have hjB : j < B.length := by rw [← HN.out]; exact hlt
      cases hbit : wbit which (j - sy) with
      | true =>
        have HC2 := Lib.hid ((HC.out).keep (HS.out).ok hjB hbit)
        have HBK2 : Hid (Blk wr go 5 (u8s ((D ++ [B[j]]) ++ B.drop (j + 1)).flatten).toArray) := Lib.hid (by rw [CrL.row_keep hjB]; exact HBK.out)
        have hbit' : (bits .and .u64 (which / 2 ^ ((j - sy) % 64)) 1 == 1) = true := hbit
        clear hbit
        go_wp2
        go_roundw
        case rel => exact ⟨k, j + 1, _, rfl, by go_num, by omega, HC2.out, HBK2.out, HBL.out⟩
        case measure => simp [intOf]; omega
      | false =>
        have HC2 := Lib.hid ((HC.out).lose (HS.out).ok hjB hbit)
        have HSP := Lib.hid ((HC.out).row_lose (HS.out).ok hjB)
        have hbit' : (bits .and .u64 (which / 2 ^ ((j - sy) % 64)) 1 == 1) = false := hbit
        have hn : n32 = N * 32 := Hn32.out
        have hm1 : (j : Int) * 32 + (k : Int) ≤ ((j : Int) + 1) * 32 := by omega
        have hm2 : ((j : Int) + 1) * 32 ≤ (n32 : Int) := by omega
        have hm3 : (0 : Int) ≤ (j : Int) * 32 + (k : Int) := by omega
        have hm4 : ((j : Int) * 32 + (k : Int)).toNat = j * 32 + k := by omega
        have hm5 : (((j : Int) + 1) * 32).toNat = (j + 1) * 32 := by omega
        have hm6 : ¬ n32 = j * 32 + k := by omega
        clear hbit hn
        have HPos : Hid (0 < (j + 1) * 32 - (j * 32 + k)) := Lib.hid (by omega)
        have HFit : Hid (j * 32 + k + ((j + 1) * 32 - (j * 32 + k)) ≤ (u8s (D ++ B.drop j).flatten).length) := Lib.hid (by rw [(HC.out).row_len (HS.out).ok (by omega), ← HN.out]; omega)
        go_upto_region 10 with (refine wpList_clear rfl (.tmp 50) rfl go (j * 32 + k) ((j + 1) * 32 - (j * 32 + k)) _ rfl HPos.out 5 _ HBK.out HFit.out ?_; intro w2 Hb2 Ho2)
        have HBK2 : Hid (Blk w2 go 5 (u8s ((D ++ [B[j].take k ++ List.replicate (32 - k) 0]) ++ B.drop (j + 1)).flatten).toArray) := Lib.hid (by rw [← HSP.out]; exact Hb2.out)
        have HBL2 : Hid (Below w.heap.size w w2) := Lib.hid ((HBL.out).trans ((Ho2.out).below (HBL.out).size hgo))
        clear hm1 hm2 hm3 hm4 hm5 hm6 HFit HSP Hb2 Ho2 HBK y0 y1 hbit'
        go_wp2
        go_roundw
        case rel => exact ⟨0, j + 1, _, rfl, by go_num, by omega, HC2.out, HBK2.out, HBL2.out⟩
        case measure => simp [intOf]; omega
    · obtain rfl : j = N := by omega
      have HF : Hid (Blk wr go 5 (u8s T.flatten).toArray) := Lib.hid (by
        have h1 := HBK.out
        have h2 := (HC.out).tot
        rw [List.drop_of_length_le (by rw [HN.out]; exact Nat.le_refl _), List.append_nil] at h1
        rw [List.drop_of_length_le (by rw [HN.out]; exact Nat.le_refl _), crashL, List.append_nil] at h2
        rw [← h2]
        exact h1)
      have HFL : Hid (T.flatten.length = n32) := Lib.hid (by
        have h2 := (HC.out).tot
        rw [List.drop_of_length_le (by rw [HN.out]; exact Nat.le_refl _), crashL, List.append_nil] at h2
        rw [← h2, flat_len D (HC.out).ok, (HC.out).len, Hn32.out])
      go_wp2
      go_ret
      exact ⟨go, rfl, hgo, HF.out, HFL.out, HBL.out⟩
end Go.Proofs.Ytabnlnhnefjebaa
