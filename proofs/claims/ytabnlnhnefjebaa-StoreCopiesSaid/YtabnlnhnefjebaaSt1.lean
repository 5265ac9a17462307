/-
  Chapter 41: last, size of a block; makeBlock. The memory is that of the given program; no conditions.
-/
import Derived.Test.YtabnlnhnefjebaaRows
import Derived.Test.YtabnlnhnefjebaaStK
import Derived.Test.YtabnlnhnefjebaaStP2
import Derived.Deep.DeepCutAuto
import Derived.StillTailTactics
import Derived.Outline
namespace Go.Proofs.Ytabnlnhnefjebaa
open Go.RowKit
set_option linter.unusedVariables false
set_option linter.unusedSimpArgs false
def zero32 : List Int := List.replicate 32 0
theorem zero61 : (Try.prog.info? 61).map (·.zero) = some (some (.agg (u8s zero32).toArray)) := by kernel_rfl
theorem info61 : (Try.prog.info? 61).map (·.size) = some 32 := by kernel_rfl
theorem size5 : (Try.prog.info? 5).map (·.size) = some 1 := by kernel_rfl
theorem und23 : Try.prog.underlying 23 = some (.slice 5) := by kernel_rfl
theorem und61 : Try.prog.underlying 61 = some (.array 32 5) := by kernel_rfl
def head5 (a b c d e : Int) : List Int := a :: b :: c :: d :: e :: List.replicate 27 0
theorem head5_len (a b c d e : Int) : (head5 a b c d e).length = 32 := by simp [head5]
theorem run_build61 (w : World) (a b c d e : Int) : (Instr.build 61 #[(0, .int .u8 a), (1, .int .u8 b), (2, .int .u8 c), (3, .int .u8 d), (4, .int .u8 e)]).run Try.prog w = .ok (.agg (u8s (head5 a b c d e)).toArray) w := by kernel_rfl
theorem wpList_build61 {ops : Array Oper} {rest : List Oper} {o : Oper} {a : Act} {w : World} {Q : Exit → Act → World → Prop} (hgd : o.guard = none) (x0 x1 x2 x3 x4 : Operand)
    (ho : o.op = .build 61 #[(0, x0), (1, x1), (2, x2), (3, x3), (4, x4)]) (v0 v1 v2 v3 v4 : Int) (h0 : a.eval x0 = .int .u8 v0) (h1 : a.eval x1 = .int .u8 v1) (h2 : a.eval x2 = .int .u8 v2) (h3 : a.eval x3 = .int .u8 v3) (h4 : a.eval x4 = .int .u8 v4)
    (h : ∀ L, Hid (L = head5 v0 v1 v2 v3 v4) → wpList Try.prog ops Q rest (a.put o.dst (.agg (u8s L).toArray)) w) : wpList Try.prog ops Q (o :: rest) a w := by
  refine wpList_val hgd _ _ ?_ (h _ (Lib.hid rfl))
  have := run_build61 w v0 v1 v2 v3 v4
  unfold execOp
  simp only [ho, List.map_toArray, List.map_cons, List.map_nil, h0, h1, h2, h3, h4, Sem.run_bind, this, Sem.run_pure, Result.andThen_ok]

theorem last_any (l : List Int) (w : World) (hl : 4 < l.length) (h0 : 0 ≤ at1 l 4) (h1 : at1 l 4 ≤ 255) :
    Calls Try.prog 39 #[.agg (u8s l).toArray] w (RetB (blast l) w) := by
  have hg := u8s_get l 4 hl
  generalize u8s l = cs at *
  have hc : (w.alloc (.cells cs.toArray 61)).cell? ⟨w.heap.size, 4, none⟩ = some (.int .u8 (at1 l 4)) := by
    rw [(Blk.new w _ cs.toArray).cell 4]; simpa using hg
  have HE := Lib.hid (and128 (at1 l 4) h0 h1)
  go_enter Try.func39, Try.ntmps39
  go_wp2
  go_ret
  exact ⟨ret_bool HE.out, (Below.refl _ _).alloc (Nat.le_refl _) _⟩
theorem size_any (l : List Int) (w : World) (hl : 4 < l.length) (h0 : 0 ≤ at1 l 4) (h1 : at1 l 4 ≤ 255) :
    Calls Try.prog 38 #[.agg (u8s l).toArray] w (RetI (bsize l) w) := by
  have hg := u8s_get l 4 hl
  generalize u8s l = cs at *
  have hc : (w.alloc (.cells cs.toArray 61)).cell? ⟨w.heap.size, 4, none⟩ = some (.int .u8 (at1 l 4)) := by
    rw [(Blk.new w _ cs.toArray).cell 4]; simpa using hg
  have he := andNot128 (at1 l 4) h0 h1
  have hb1 : 0 ≤ at1 l 4 % 128 := by omega
  have hb2 : at1 l 4 % 128 < 128 := by omega
  go_enter Try.func38, Try.ntmps38
  go_wp2
  go_ret
  refine ⟨ret_int ?_, (Below.refl _ _).alloc (Nat.le_refl _) _⟩
  unfold bsize
  omega
theorem blk_of {g : Nat} {w w' : World} {t : TypeId} {c : Array Value} (hg : Hid (g = w.heap.size)) (hw : Hid (w' = w.alloc (.cells c t))) : Blk w' g t c := by
  rw [hg.out, hw.out]; exact Blk.new _ _ _
theorem info_hd {L : List Int} {a b c d e : Int} (h : Hid (L = head5 a b c d e)) : (Try.prog.info? 61).map (·.size) = some (u8s L).toArray.size := by
  rw [info61, u8s_size, h.out, head5_len]
theorem size_hd {L : List Int} {a b c d e : Int} (h : Hid (L = head5 a b c d e)) : (u8s zero32).toArray.size = (u8s L).toArray.size := by
  rw [u8s_size, u8s_size, h.out, head5_len]; rfl
theorem hd_cell4 {w : World} {g : Nat} {t : TypeId} {L : List Int} {a b c d e : Int} (hb : Hid (Blk w g t (u8s L).toArray)) (h : Hid (L = head5 a b c d e)) : w.cell? ⟨g, 4, none⟩ = some (.int .u8 e) := by
  rw [(hb.out).cell 4, h.out]; rfl
theorem hd_set {w w' : World} {g : Nat} {t : TypeId} {L : List Int} {a b c d e f : Int} (hb : Hid (Blk w g t (u8s L).toArray)) (h : Hid (L = head5 a b c d e)) (hw : Hid (w' = w.setCell ⟨g, 4, none⟩ (.int .u8 f))) : Hid (Blk w' g t (u8s (head5 a b c d f)).toArray) := by
  refine Lib.hid ?_
  rw [hw.out]
  have := (hb.out).set_ 4 (.int .u8 f)
  rw [h.out] at this
  exact this
theorem hd_same {w w' : World} {g : Nat} {t : TypeId} {L : List Int} {a b c d e : Int} (hb : Hid (Blk w g t (u8s L).toArray)) (h : Hid (L = head5 a b c d e)) (hw : Hid (w' = w)) : Hid (Blk w' g t (u8s (head5 a b c d e)).toArray) := by
  refine Lib.hid ?_
  rw [hw.out, ← h.out]
  exact hb.out
theorem only_set {w w' w'' : World} {g i : Nat} {v : Value} (ho : Hid (Only g w w')) (hw : Hid (w'' = w'.setCell ⟨g, i, none⟩ v)) : Hid (Only g w w'') := by
  refine Lib.hid ?_
  rw [hw.out]
  exact (ho.out).setCell (.inl rfl) _
theorem rdB_old {w w1 w2 w4 : World} {g4 g7 : Nat} {A : Option Addr} {l : List Int} {o1 o2 : Obj} (hr : Hid (RdB w w.heap.size A l)) (h1 : Hid (g4 = w.heap.size)) (h2 : Hid (w1 = w.alloc o1)) (h3 : Hid (g7 = w1.heap.size)) (h4 : Hid (w2 = w1.alloc o2)) (ho : Hid (Only g7 w2 w4)) (_ : True = True) : RdB w4.drew w4.drew.heap.size A l := by
  have hb : Below w.heap.size w w4 := by
    refine Below.trans ?_ ((ho.out).below ?_ ?_)
    · rw [h4.out, h2.out]; exact ((Below.refl _ _).alloc (Nat.le_refl _) _).alloc (by simp) _
    · rw [h4.out, h2.out]; simp; omega
    · rw [h3.out, h2.out]; simp
  exact Rd.more (RdB.below hr.out (below_drewN hb 1)) hb.size
theorem spl_cell31 {w : World} {g : Nat} {t : TypeId} {a b c d e : Int} {l : List Int} (hb : Hid (w.heap[g]? = some (.cells (splice (u8s (head5 a b c d e)) 5 (u8s l)).toArray t (0, 0)))) (hl : l.length ≤ 26) : w.cell? ⟨g, 31, none⟩ = some ((splice (u8s (head5 a b c d e)) 5 (u8s l))[31]'(by rw [length_splice _ _ _ (by simp only [u8s_len, head5_len]; omega), u8s_len, head5_len]; omega)) := by
  rw [Blk.cell hb.out 31]
  simp
/-- the header, the data and the end mark make the block -/
theorem blk_cells (n : Nat) (d : List Int) (last : Bool) (hd : d.length ≤ 26) (a b c e f : Int) (ha : a = ((n / 16777216 % 256 : Nat) : Int)) (hb : b = ((n / 65536 % 256 : Nat) : Int)) (hc : c = ((n / 256 % 256 : Nat) : Int)) (he : e = ((n % 256 : Nat) : Int)) (hf : f = (d.length : Int) + (if last then 128 else 0)) :
    ((splice (u8s (head5 a b c e f)) 5 (u8s d)).toArray.setIfInBounds 31 (.int .u8 165)) = (u8s (blk n d last)).toArray := by
  subst ha hb hc he hf
  have e1 : head5 ((n / 16777216 % 256 : Nat) : Int) ((n / 65536 % 256 : Nat) : Int) ((n / 256 % 256 : Nat) : Int) ((n % 256 : Nat) : Int) ((d.length : Int) + (if last then 128 else 0)) = [((n / 16777216 % 256 : Nat) : Int), ((n / 65536 % 256 : Nat) : Int), ((n / 256 % 256 : Nat) : Int), ((n % 256 : Nat) : Int), (d.length : Int) + (if last then 128 else 0)] ++ List.replicate 27 0 := rfl
  generalize hH : [((n / 16777216 % 256 : Nat) : Int), ((n / 65536 % 256 : Nat) : Int), ((n / 256 % 256 : Nat) : Int), ((n % 256 : Nat) : Int), (d.length : Int) + (if last then 128 else 0)] = H at *
  have hH5 : H.length = 5 := by rw [← hH]; rfl
  unfold blk
  rw [hH, e1]
  rw [List.setIfInBounds_toArray]
  congr 1
  unfold splice
  rw [u8s_app, List.take_append_of_le_length (by rw [u8s_len]; omega), List.take_of_length_le (by rw [u8s_len]; omega), u8s_len, List.drop_append, u8s_len, hH5, List.drop_of_length_le (by rw [u8s_len]; omega), List.nil_append]
  have e2 : u8s (List.replicate 27 0) = List.replicate 27 (Value.int .u8 0) := by simp [u8s]
  have e3 : (List.replicate 27 (Value.int .u8 0)).drop (5 + d.length - 5) = List.replicate (26 - d.length) (Value.int .u8 0) ++ [Value.int .u8 0] := by
    rw [List.drop_replicate, show 27 - (5 + d.length - 5) = (26 - d.length) + 1 by omega, List.replicate_succ']
  rw [e2, e3, ← List.append_assoc, ← List.append_assoc, List.set_append_right _ _ (by simp [u8s]; omega)]
  have e4 : 31 - (u8s H ++ u8s d ++ List.replicate (26 - d.length) (Value.int .u8 0)).length = 0 := by simp [u8s_len, hH5]; omega
  rw [e4, u8s_app, u8s_app, u8s_app]
  simp [u8s]
theorem mk_end {w w' : World} {g : Nat} {t : TypeId} {n : Nat} {d : List Int} {last : Bool} {a b c e f : Int} (hb : Hid (w.heap[g]? = some (.cells (splice (u8s (head5 a b c e f)) 5 (u8s d)).toArray t (0, 0)))) (hw : Hid (w' = w.setCell ⟨g, 31, none⟩ (.int .u8 165)))
    (hd : d.length ≤ 26) (ha : a = ((n / 16777216 % 256 : Nat) : Int)) (hb' : b = ((n / 65536 % 256 : Nat) : Int)) (hc : c = ((n / 256 % 256 : Nat) : Int)) (he : e = ((n % 256 : Nat) : Int)) (hf : f = (d.length : Int) + (if last then 128 else 0)) : Hid (Blk w' g t (u8s (blk n d last)).toArray) := by
  refine Lib.hid ?_
  rw [hw.out, ← blk_cells n d last hd a b c e f ha hb' hc he hf]
  exact Blk.set_ hb.out 31 _
theorem mk_res {w w1 w2 w4 w5 w6 : World} {g4 g7 : Nat} {t : TypeId} {z : Array Value} {o2 : Obj} {v : Value} {i : Nat} (h1 : Hid (g4 = w.heap.size)) (h2 : Hid (w1 = w.alloc (.cells z t))) (h3 : Hid (g7 = w1.heap.size)) (h4 : Hid (w2 = w1.alloc o2)) (ho : Hid (Only g7 w2 w4)) (hb : Hid (Below g7 w4.drew w5)) (hw : Hid (w6 = w5.setCell ⟨g7, i, none⟩ v)) : Hid (Blk w6 g4 t z) := by
  refine Lib.hid ?_
  have hlt : g4 < g7 := by rw [h3.out, h2.out, h1.out]; simp
  have b1 : Blk w1 g4 t z := blk_of h1 h2
  have b2 : Blk w2 g4 t z := by rw [h4.out]; exact b1.alloc _
  have b4 : Blk w4 g4 t z := b2.grown ho.out (fun e => by injection e; omega)
  have b5 : Blk w5 g4 t z := b4.drew.below hb.out hlt
  rw [hw.out]
  exact b5.far (by simp; omega) _
theorem mk_below {w w1 w2 w4 w5 w6 : World} {g7 i : Nat} {o1 o2 : Obj} {v : Value} (h2 : Hid (w1 = w.alloc o1)) (h3 : Hid (g7 = w1.heap.size)) (h4 : Hid (w2 = w1.alloc o2)) (ho : Hid (Only g7 w2 w4)) (hb : Hid (Below g7 w4.drew w5)) (hw : Hid (w6 = w5.setCell ⟨g7, i, none⟩ v)) : Hid (Below w.heap.size w w6) := by
  refine Lib.hid ?_
  have hlt : w.heap.size < g7 := by rw [h3.out, h2.out]; simp
  have b4 : Below w.heap.size w w4 := by
    refine Below.trans ?_ ((ho.out).below ?_ (by omega))
    · rw [h4.out, h2.out]; exact ((Below.refl _ _).alloc (Nat.le_refl _) _).alloc (by simp) _
    · rw [h4.out, h2.out]; simp; omega
  have b4' : Below w.heap.size w w4.drew := below_drewN b4 1
  rw [hw.out]
  exact (b4'.trans ((hb.out).mono (by omega))).setCell (by simp; omega) _
theorem info_32 {L : List Int} (h : Hid (L.length = 32)) : (Try.prog.info? 61).map (·.size) = some (u8s L).toArray.size := by
  rw [info61, u8s_size, h.out]
theorem size_32 {L : List Int} (h : Hid (L.length = 32)) : (u8s zero32).toArray.size = (u8s L).toArray.size := by
  rw [u8s_size, u8s_size, h.out]; rfl
def MkPost (n : Nat) (l : List Int) (w : World) (e : Ending) (w' : World) : Prop :=
  e = .returned (.tuple #[.agg (u8s (blk n (l.take 26) (decide (l.length ≤ 26)))).toArray, .int .i64 (min l.length 26 : Nat)]) ∧ Below w.heap.size w w'
theorem results_cell_tmp {P : Program} {fn : Func} {p q : Tmp} {ty : TypeId} (h : fn.results = #[.cell p ty, .tmp q]) (tmps : Array Value) (w : World) (g : Nat) (t : TypeId) (cs : Array Value) (d : TypeDesc) (v : Value)
    (hp : tmps.getD p undef = .pointer (some ⟨g, 0, none⟩)) (hq : tmps.getD q undef = v) (hg : Blk w g t cs)
    (hu : P.underlying ty = some d) (hd : (match d with | .struct _ | .array _ _ => true | _ => false) = true) (hi : (P.info? ty).map (·.size) = some cs.size) :
    (results fn tmps).run P w = .ok (.tuple #[.agg cs, v]) w := by
  have hp' : tmps[p]?.getD undef = .pointer (some ⟨g, 0, none⟩) := by simpa using hp
  have hq' : tmps[q]?.getD undef = v := by simpa using hq
  simp [results, h, hp', hq', asAddr, run_loadVar_row w g t ty cs (0, 0) d hg hu hd hi]
set_option maxHeartbeats 1600000 in
theorem mk_last (n : Nat) (A : Option Addr) (c : Nat) (l : List Int) (w : World) (hr : RdB w w.heap.size A l) (hc : l.length ≤ c) (hc2 : c ≤ 9223372036854775807) (hn1 : n ≤ 100000) (hn : l.length ≤ 26) :
    Calls Try.prog 41 #[.int .i64 n, .slice A l.length c] w (MkPost n l w) := by
  have HR := Lib.hid hr
  clear hr
  have hn' : (l.length : Int) ≤ 26 := by omega
  have hk0 : (0 : Int) ≤ n := by omega
  have hk1 : (n : Int) ≤ 100000 := by omega
  obtain ⟨num, HN⟩ : ∃ num : Int, Hid (num = n) := ⟨_, Lib.hid rfl⟩
  rw [← HN.out] at hk0 hk1 ⊢
  go_enter Try.func41, Try.ntmps41
  go_upto_region 2 with (refine wpList_alloc_arr rfl 61 rfl _ zero61 ?_; intro g4 w1 Hg4 Hw1)
  go_upto_region 3 with (first
    | (refine wpList_alloc_arr rfl 61 rfl _ zero61 ?_; intro g7 w2 Hg7 Hw2)
    | (refine wpList_build61 rfl (.tmp 13) (.tmp 16) (.tmp 19) (.tmp 21) (.tmp 23) rfl _ _ _ _ _ rfl rfl rfl rfl rfl ?_; intro L HL)
    | (refine wpList_store_blk rfl 61 (.tmp 7) (.tmp 24) rfl g7 _ _ 61 (blk_of Hg7 Hw2) rfl rfl (info_hd HL) (size_hd HL) (u8s_all _) ?_; intro w3 Hb3 Ho3))
  have hc4 : w3.cell? ⟨g7, 4, none⟩ = some (.int .u8 ↑l.length) := hd_cell4 Hb3 HL
  have hf4 : w3.frozen? ⟨g7, 4, none⟩ = false := (Hb3.out).frozen 4
  have hor := or128 (l.length : Int) (by omega) (by omega)
  go_upto_region 5 with (fail)
  obtain ⟨w4, Hw4⟩ : ∃ w4, Hid (w4 = w3.setCell ⟨g7, 4, none⟩ (.int .u8 (↑l.length + 128))) := ⟨_, Lib.hid rfl⟩
  rw [← Hw4.out]
  have Hb4 := hd_set Hb3 HL Hw4
  have Ho4 := only_set (Ho3) Hw4
  clear hc4 hf4 hor
  go_still_tail 4, (by kernel_rfl)
  change wpList _ _ _ _ _ w4.drew
  refine wpList_copy_splice rfl (.tmp 33) (.tmp 36) 23 23 rfl 5 und23 size5 _ _ _ _ _ _ rfl rfl g7 5 _ 61 Hb4.out (u8s l) ?_ (fun h0 => ⟨rfl, ?_⟩) ?_ (u8s_one _) g7 w4.drew (Below.refl _ _) (Nat.le_refl _) ?_
  · rw [u8s_len]; exact (Nat.min_eq_left (by omega)).symm
  · obtain ⟨ad, ha, hcell⟩ := (rdB_old HR Hg4 Hw1 Hg7 Hw2 Ho4 rfl).src.2 (by rw [u8s_len] at h0; exact h0)
    exact ⟨ad, ha, hcell⟩
  · rw [u8s_len, u8s_len, head5_len]; omega
  intro w5 Hb5 Hbl5
  have Hbl5' := Lib.hid Hbl5
  clear Hbl5
  obtain ⟨v31, hc31⟩ : ∃ v, w5.cell? ⟨g7, 31, none⟩ = some v := ⟨_, spl_cell31 Hb5 hn⟩
  have hf31 : w5.frozen? ⟨g7, 31, none⟩ = false := Blk.frozen Hb5.out 31
  go_upto_region 7 with (fail)
  obtain ⟨w6, Hw6⟩ : ∃ w6, Hid (w6 = w5.setCell ⟨g7, 31, none⟩ (.int .u8 165)) := ⟨_, Lib.hid rfl⟩
  rw [← Hw6.out]
  clear hc31 hf31
  have Hb6 : Hid (Blk w6 g7 61 (u8s (blk n l true)).toArray) := mk_end Hb5 Hw6 hn (by rw [HN.out]; omega) (by rw [HN.out]; omega) (by rw [HN.out]; omega) (by rw [HN.out]; omega) (by simp)
  have Hz6 : Hid (Blk w6 g4 61 (u8s zero32).toArray) := mk_res Hg4 Hw1 Hg7 Hw2 Ho4 Hbl5' Hw6
  have Hbel6 : Hid (Below w.heap.size w w6) := mk_below Hw1 Hg7 Hw2 Ho4 Hbl5' Hw6
  have Hlt : Hid (w.heap.size ≤ g4) := Lib.hid (by rw [Hg4.out]; exact Nat.le_refl _)
  clear Hb3 Ho3 Hb4 Ho4 Hw4 Hb5 Hbl5' Hw6 HL HN Hw1 Hw2
  obtain ⟨F, HF⟩ : ∃ F, Hid (F = blk n l true) := ⟨_, Lib.hid rfl⟩
  rw [← HF.out] at Hb6
  have Hlen : Hid (F.length = 32) := Lib.hid (by rw [HF.out]; exact blk_len _ _ _ hn)
  go_wp2_with (first
    | (refine wpList_load_blk rfl 61 (.tmp 7) rfl g7 _ 61 Hb6.out rfl _ und61 rfl (info_32 Hlen) ?_)
    | (refine wpList_store_blk rfl 61 (.tmp 4) (.tmp 39) rfl g4 _ _ 61 Hz6.out rfl rfl (info_32 Hlen) (size_32 Hlen) (u8s_all _) ?_; intro w7 Hb7 Ho7))
  refine bodyPost_ret (results_cell_tmp Try.results41 _ _ g4 61 _ _ _ rfl rfl Hb7.out und61 rfl (info_32 Hlen)) rfl ⟨?_, (Hbel6.out).trans ((Ho7.out).below (Hbel6.out).size Hlt.out)⟩
  rw [HF.out]
  rw [List.take_of_length_le hn, decide_eq_true hn, Nat.min_eq_left hn]; rfl
set_option maxHeartbeats 1600000 in
theorem mk_more (n : Nat) (A : Option Addr) (c : Nat) (l : List Int) (w : World) (hr : RdB w w.heap.size A l) (hc : l.length ≤ c) (hc2 : c ≤ 9223372036854775807) (hn1 : n ≤ 100000) (hn : 26 < l.length) :
    Calls Try.prog 41 #[.int .i64 n, .slice A l.length c] w (MkPost n l w) := by
  have HR := Lib.hid hr
  clear hr
  have hn' : 26 < (l.length : Int) := by omega
  have hn2 : ¬ (l.length : Int) ≤ 26 := by omega
  have hn3 : ((26 : Int) == (l.length : Int)) = false := by simp; omega
  have hc3 : (26 : Int) ≤ (c : Int) := by omega
  have hc4 : 26 ≤ c := by omega
  have hk0 : (0 : Int) ≤ n := by omega
  have hk1 : (n : Int) ≤ 100000 := by omega
  obtain ⟨num, HN⟩ : ∃ num : Int, Hid (num = n) := ⟨_, Lib.hid rfl⟩
  rw [← HN.out] at hk0 hk1 ⊢
  go_enter Try.func41, Try.ntmps41
  go_upto_region 2 with (refine wpList_alloc_arr rfl 61 rfl _ zero61 ?_; intro g4 w1 Hg4 Hw1)
  go_upto_region 3 with (first
    | (refine wpList_alloc_arr rfl 61 rfl _ zero61 ?_; intro g7 w2 Hg7 Hw2)
    | (refine wpList_build61 rfl (.tmp 13) (.tmp 16) (.tmp 19) (.tmp 21) (.tmp 23) rfl _ _ _ _ _ rfl rfl rfl rfl rfl ?_; intro L HL)
    | (refine wpList_store_blk rfl 61 (.tmp 7) (.tmp 24) rfl g7 _ _ 61 (blk_of Hg7 Hw2) rfl rfl (info_hd HL) (size_hd HL) (u8s_all _) ?_; intro w3 Hb3 Ho3))
  go_upto_region 5 with (fail)
  obtain ⟨w4, Hw4⟩ : ∃ w4, Hid (w4 = w3) := ⟨_, Lib.hid rfl⟩
  rw [← Hw4.out]
  have Hb4 := hd_same Hb3 HL Hw4
  have Ho4 : Hid (Only g7 w2 w4) := Lib.hid (by rw [Hw4.out]; exact Ho3.out)
  go_still_tail 4, (by kernel_rfl)
  change wpList _ _ _ _ _ w4.drew
  refine wpList_copy_splice rfl (.tmp 33) (.tmp 36) 23 23 rfl 5 und23 size5 _ _ _ _ _ _ rfl rfl g7 5 _ 61 Hb4.out (u8s (l.take 26)) ?_ (fun h0 => ⟨rfl, ?_⟩) ?_ (u8s_one _) g7 w4.drew (Below.refl _ _) (Nat.le_refl _) ?_
  · rw [u8s_len, List.length_take, Nat.min_eq_left (by omega)]; rfl
  · obtain ⟨ad, ha, hcell⟩ := (rdB_old (Lib.hid ((HR.out).take 26)) Hg4 Hw1 Hg7 Hw2 Ho4 rfl).src.2 (by rw [u8s_len] at h0; exact h0)
    exact ⟨ad, ha, hcell⟩
  · rw [u8s_len, u8s_len, head5_len, List.length_take]; omega
  intro w5 Hb5 Hbl5
  have Hbl5' := Lib.hid Hbl5
  clear Hbl5
  obtain ⟨v31, hc31⟩ : ∃ v, w5.cell? ⟨g7, 31, none⟩ = some v := ⟨_, spl_cell31 Hb5 (by simp; omega)⟩
  have hf31 : w5.frozen? ⟨g7, 31, none⟩ = false := Blk.frozen Hb5.out 31
  go_upto_region 7 with (fail)
  obtain ⟨w6, Hw6⟩ : ∃ w6, Hid (w6 = w5.setCell ⟨g7, 31, none⟩ (.int .u8 165)) := ⟨_, Lib.hid rfl⟩
  rw [← Hw6.out]
  clear hc31 hf31
  have Hb6 : Hid (Blk w6 g7 61 (u8s (blk n (l.take 26) false)).toArray) := mk_end Hb5 Hw6 (by simp; omega) (by rw [HN.out]; omega) (by rw [HN.out]; omega) (by rw [HN.out]; omega) (by rw [HN.out]; omega) (by simp; omega)
  have Hz6 : Hid (Blk w6 g4 61 (u8s zero32).toArray) := mk_res Hg4 Hw1 Hg7 Hw2 Ho4 Hbl5' Hw6
  have Hbel6 : Hid (Below w.heap.size w w6) := mk_below Hw1 Hg7 Hw2 Ho4 Hbl5' Hw6
  have Hlt : Hid (w.heap.size ≤ g4) := Lib.hid (by rw [Hg4.out]; exact Nat.le_refl _)
  clear Hb3 Ho3 Hb4 Ho4 Hw4 Hb5 Hbl5' Hw6 HL HN Hw1 Hw2
  obtain ⟨F, HF⟩ : ∃ F, Hid (F = blk n (l.take 26) false) := ⟨_, Lib.hid rfl⟩
  rw [← HF.out] at Hb6
  have Hlen : Hid (F.length = 32) := Lib.hid (by rw [HF.out]; exact blk_len _ _ _ (by simp; omega))
  go_wp2_with (first
    | (refine wpList_load_blk rfl 61 (.tmp 7) rfl g7 _ 61 Hb6.out rfl _ und61 rfl (info_32 Hlen) ?_)
    | (refine wpList_store_blk rfl 61 (.tmp 4) (.tmp 39) rfl g4 _ _ 61 Hz6.out rfl rfl (info_32 Hlen) (size_32 Hlen) (u8s_all _) ?_; intro w7 Hb7 Ho7))
  refine bodyPost_ret (results_cell_tmp Try.results41 _ _ g4 61 _ _ _ rfl rfl Hb7.out und61 rfl (info_32 Hlen)) rfl ⟨?_, (Hbel6.out).trans ((Ho7.out).below (Hbel6.out).size Hlt.out)⟩
  rw [HF.out]
  rw [decide_eq_false (by omega), Nat.min_eq_right (by omega)]; rfl
theorem mk_any (n : Nat) (A : Option Addr) (c : Nat) (l : List Int) (w : World) (hr : RdB w w.heap.size A l) (hc : l.length ≤ c) (hc2 : c ≤ 9223372036854775807) (hn1 : n ≤ 100000) :
    Calls Try.prog 41 #[.int .i64 n, .slice A l.length c] w (MkPost n l w) := by
  by_cases hn : l.length ≤ 26
  · exact mk_last n A c l w hr hc hc2 hn1 hn
  · exact mk_more n A c l w hr hc hc2 hn1 (by omega)
end Go.Proofs.Ytabnlnhnefjebaa
