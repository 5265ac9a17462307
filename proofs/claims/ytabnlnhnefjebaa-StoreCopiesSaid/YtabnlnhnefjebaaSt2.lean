/-
  Chapter 41: slices.Clone at bytes and at blocks; formed. The memory is that of the given program; no conditions.
-/
import Derived.Test.YtabnlnhnefjebaaStL
namespace Go.Proofs.Ytabnlnhnefjebaa
open Go.RowKit
set_option linter.unusedVariables false
set_option linter.unusedSimpArgs false
theorem row5 : (Try.prog.info? 5).map (fun i => (i.zero, i.size, i.bytes)) = some (some (.int .u8 0), 1, 1) := by kernel_rfl
theorem row61 : (Try.prog.info? 61).map (fun i => (i.zero, i.size, i.bytes)) = some (some (.agg (u8s zero32).toArray), 32, 32) := by kernel_rfl
theorem und57 : Try.prog.underlying 57 = some (.slice 61) := by kernel_rfl
/-- a row that was made anew -/
def NewRow (t : TypeId) (size n : Nat) (xs : List Value) (w : World) (e : Ending) (w' : World) : Prop :=
  ∃ A' c', e = .returned (.slice A' n c') ∧ w'.ownsRow w.heap.size t size (.slice A' n c') n xs ∧ Below w.heap.size w w'
theorem newRow_of {t : TypeId} {size n : Nat} {xs : List Value} {w w1 w' : World} {A' : Option Addr} {c' : Nat} {v : Value} {e : Ending} (h1 : Hid (w1 = w.alloc (.cells #[] t))) (hv : v = .slice (some ⟨w.heap.size, 0, none⟩) 0 0)
    (ho : Hid (w'.ownsRow w.heap.size t size (.slice A' n c') n xs)) (hg : Hid (w1.grownBy w' v.ownBlock)) (he : e = .returned (.slice A' n c')) : NewRow t size n xs w e w' := by
  have ho := ho.out
  refine ⟨A', c', he, ho, ?_⟩
  have hg := hg.out
  rw [hv, h1.out] at hg
  exact ((Below.refl w.heap.size w).alloc (Nat.le_refl _) _).trans (Only.below hg (by simp) (Nat.le_refl _))
theorem emptyLit (w : World) (t : TypeId) (size : Nat) : (w.alloc (.cells #[] t)).ownsRow w.heap.size t size (.slice (some ⟨w.heap.size, 0, none⟩) 0 0) 0 [] := by
  simpa using World.ownsRow_lit (base := w.heap.size) (e := t) (size := size) w #[] 0 (Nat.le_refl _) (by simp [maxLen]) (by simp)
theorem Src.alloc {w : World} {size : Nat} {A : Option Addr} {m : Nat} {news : List Value} (h : Src w size A m news) (o : Obj) : Src (w.alloc o) size A m news := by
  refine ⟨h.1, fun h0 => ?_⟩
  obtain ⟨ad, e, hc⟩ := h.2 h0
  exact ⟨ad, e, fun j u hu => Lib.cell?_alloc_some o (hc j u hu)⟩
set_option maxHeartbeats 400000 in
theorem cloneB_some (ad : Addr) (c : Nat) (l : List Int) (w : World) (hr : Src w 1 (some ad) l.length (u8s l)) (hl : l.length ≤ 100000) :
    Calls Try.prog 48 #[.slice (some ad) l.length c] w (NewRow 5 1 l.length (u8s l) w) := by
  obtain ⟨i0, hi, hz0, hz1, hz2⟩ := info_parts row5
  have HS := Lib.hid (hr.alloc (.cells #[] 5))
  have HO := Lib.hid (emptyLit w 5 1)
  have hnil := fun (w : World) (n c : Nat) => Lib.run_eql_slice_nil (P := Try.prog) w 23 5 (some ad) n c 0 0 und23
  clear hr
  go_enter Try.func48, Try.ntmps48
  go_wp2_with (at_builtin; refine wpList_app rfl (.tmp 5) (.tmp 6) 23 rfl w.heap.size 5 i0 (.int .u8 0) 1 1 und23 hi hz0 hz1 hz2 rfl (by decide) _ 0 [] rfl HO.out _ _ _ (u8s l) rfl HS.out (u8s_one l) ?_ ?_ ?_ ?_)
  · unfold maxLen; omega
  · omega
  · simp
  intro A' c' w' h1 h2 h3
  go_wp2
  go_ret
  exact newRow_of (Lib.hid rfl) rfl h1 h2 rfl
set_option maxHeartbeats 400000 in
theorem cloneK_some (ad : Addr) (c n : Nat) (xs : List Value) (w : World) (hr : Src w 32 (some ad) n xs) (h1 : ∀ u ∈ xs, u.oneCell' = true) (hl : n ≤ 100000) :
    Calls Try.prog 47 #[.slice (some ad) n c] w (NewRow 61 32 n xs w) := by
  obtain ⟨i0, hi, hz0, hz1, hz2⟩ := info_parts row61
  have HS := Lib.hid (hr.alloc (.cells #[] 61))
  have HO := Lib.hid (emptyLit w 61 32)
  have H1 := Lib.hid h1
  have hnil := fun (w : World) (n c : Nat) => Lib.run_eql_slice_nil (P := Try.prog) w 57 61 (some ad) n c 0 0 und57
  have hz3 : (Value.agg (u8s zero32).toArray).cells.size = 32 := rfl
  have HZ0 := Lib.hid hz0
  have HZ3 := Lib.hid hz3
  have HZ1 := Lib.hid hz1
  have HZ2 := Lib.hid hz2
  have HI := Lib.hid hi
  clear hr h1 hz0 hz3 hz1 hz2 hi
  go_enter Try.func47, Try.ntmps47
  go_wp2_with (at_builtin; refine wpList_app rfl (.tmp 5) (.tmp 6) 57 rfl w.heap.size 61 i0 _ 32 32 und57 HI.out HZ0.out HZ1.out HZ2.out HZ3.out (by decide) _ 0 [] rfl HO.out _ _ _ xs rfl HS.out H1.out ?_ ?_ ?_ ?_)
  · unfold maxLen; omega
  · omega
  · simp
  intro A' c' w' h1 h2 h3
  go_wp2
  go_ret
  exact newRow_of (Lib.hid rfl) rfl h1 h2 rfl
set_option maxHeartbeats 400000 in
theorem cloneK_none (w : World) :
    Calls Try.prog 47 #[.slice none 0 0] w (NewRow 61 32 0 [] w) := by
  have hnil := fun (w : World) (n c : Nat) => Lib.run_eql_slice_nil (P := Try.prog) w 57 61 none n c 0 0 und57
  go_enter Try.func47, Try.ntmps47
  go_wp2
  go_ret
  exact ⟨none, 0, rfl, World.ownsRow_nil _ _ _ _, Below.refl _ _⟩

theorem formed_bad {n : Nat} {x : List Int} (h : bsize x < 1 ∨ 26 < bsize x ∨ (blast x = false ∧ bsize x ≠ 26)) : formed n x = false := by
  unfold formed
  refine decide_eq_false fun hf => ?_
  obtain ⟨h1, h2, h3, _⟩ := hf
  rcases h with h | h | ⟨h, h'⟩
  · omega
  · omega
  · rw [h] at h3
    rcases h3 with h3 | h3
    · cases h3
    · exact h' h3
-- FORMED
theorem size_at {x : List Int} {s : Nat} (HX : Hid (x.length = 32)) (HB : Hid (byteOk x)) (Hs : Hid (s = bsize x)) (w : World) : Calls Try.prog 38 #[.agg (u8s x).toArray] w (RetI s w) := by
  rw [Hs.out]; exact size_any x w (by rw [HX.out]; omega) (byteOk_at HB.out 4).1 (byteOk_at HB.out 4).2
theorem last_at {x : List Int} {la : Bool} (HX : Hid (x.length = 32)) (HB : Hid (byteOk x)) (Hl : Hid (la = blast x)) (w : World) : Calls Try.prog 39 #[.agg (u8s x).toArray] w (RetB la w) := by
  rw [Hl.out]; exact last_any x w (by rw [HX.out]; omega) (byteOk_at HB.out 4).1 (byteOk_at HB.out 4).2
theorem bel_box {w w1 w2 : World} {o : Obj} (h1 : Hid (w1 = w.alloc o)) (h2 : Hid (Below w1.heap.size w1 w2)) : Below w.heap.size w w2 := by
  have := h2.out
  rw [h1.out] at this
  exact ((Below.refl _ _).alloc (Nat.le_refl _) _).trans (this.mono (by simp))
theorem bel_more {w w1 w2 : World} (h1 : Below w.heap.size w w1) (h2 : Hid (Below w1.heap.size w1 w2)) : Below w.heap.size w w2 := h1.trans ((h2.out).mono h1.size)
theorem load61 {w : World} {g : Nat} {c : Array Value} (h : Blk w g 61 c) (hi : (Try.prog.info? 61).map (·.size) = some c.size) : (Instr.loadAt 61 (.pointer (some ⟨g, 0, none⟩))).run Try.prog w = .ok (.agg c) w := by
  simp only [Instr.loadAt, Instr.sureAddr, Sem.run_bind, Sem.run_pure, Result.andThen_ok, run_loadVar_row w g 61 61 c (0, 0) _ h und61 rfl hi]
theorem blk_more {w w2 : World} {g : Nat} {t : TypeId} {c : Array Value} (h : Blk w g t c) (h2 : Hid (Below w.heap.size w w2)) : Hid (Blk w2 g t c) := Lib.hid (h.below h2.out h.lt)
set_option maxHeartbeats 800000 in
theorem formed_lo (n : Nat) (x : List Int) (w : World) (hx : x.length = 32) (bx : byteOk x) (h : bsize x < 1) :
    Calls Try.prog 37 #[.agg (u8s x).toArray, .int .i64 n] w (RetB (formed n x) w) := by
  have HX : Hid (x.length = 32) := Lib.hid hx
  have HB : Hid (byteOk x) := Lib.hid bx
  obtain ⟨s, Hs⟩ : ∃ s, Hid (s = bsize x) := ⟨_, Lib.hid rfl⟩
  obtain ⟨fx, HF⟩ : ∃ fx, Hid (fx = formed n x) := ⟨_, Lib.hid rfl⟩
  rw [← HF.out]
  have HV : Hid (fx = false) := Lib.hid (by rw [HF.out]; exact formed_bad (.inl h))
  have h1 : (s : Int) < 1 := by rw [Hs.out]; omega
  clear h
  clear hx bx
  go_enter Try.func37, Try.ntmps37
  go_upto_region 2 with (first
    | (refine wpList_box_arr rfl 61 (.tmp 0) rfl _ rfl ?_; intro g2 w1 Hg2 Hw1)
    | (refine wpList_load_blk rfl 61 (.tmp 2) rfl g2 _ 61 (blk_of Hg2 Hw1) rfl _ und61 rfl (info_32 HX) ?_)
    | (go_at_call 38; refine (size_at HX HB Hs _).mono ?_; rintro e w2 ⟨rfl, hb2⟩; have Hb2 := Lib.hid hb2; clear hb2))
  have HB2 : Hid (Blk w2 g2 61 (u8s x).toArray) := blk_more (blk_of Hg2 Hw1) Hb2
  have Hbel2 := Lib.hid (bel_box Hw1 Hb2)
  go_wp2
  go_ret
  exact ⟨ret_bool HV.out.symm, Hbel2.out⟩
set_option maxHeartbeats 800000 in
theorem formed_hi (n : Nat) (x : List Int) (w : World) (hx : x.length = 32) (bx : byteOk x) (h : 26 < bsize x) :
    Calls Try.prog 37 #[.agg (u8s x).toArray, .int .i64 n] w (RetB (formed n x) w) := by
  have HX : Hid (x.length = 32) := Lib.hid hx
  have HB : Hid (byteOk x) := Lib.hid bx
  obtain ⟨s, Hs⟩ : ∃ s, Hid (s = bsize x) := ⟨_, Lib.hid rfl⟩
  obtain ⟨fx, HF⟩ : ∃ fx, Hid (fx = formed n x) := ⟨_, Lib.hid rfl⟩
  rw [← HF.out]
  have HV : Hid (fx = false) := Lib.hid (by rw [HF.out]; exact formed_bad (.inr (.inl h)))
  have h0 : ¬ (s : Int) < 1 := by rw [Hs.out]; omega
  have h1 : 26 < (s : Int) := by rw [Hs.out]; omega
  clear h
  clear hx bx
  go_enter Try.func37, Try.ntmps37
  go_upto_region 2 with (first
    | (refine wpList_box_arr rfl 61 (.tmp 0) rfl _ rfl ?_; intro g2 w1 Hg2 Hw1)
    | (refine wpList_load_blk rfl 61 (.tmp 2) rfl g2 _ 61 (blk_of Hg2 Hw1) rfl _ und61 rfl (info_32 HX) ?_)
    | (go_at_call 38; refine (size_at HX HB Hs _).mono ?_; rintro e w2 ⟨rfl, hb2⟩; have Hb2 := Lib.hid hb2; clear hb2))
  have HB2 : Hid (Blk w2 g2 61 (u8s x).toArray) := blk_more (blk_of Hg2 Hw1) Hb2
  have Hbel2 := Lib.hid (bel_box Hw1 Hb2)
  go_wp2
  go_ret
  exact ⟨ret_bool HV.out.symm, Hbel2.out⟩
set_option maxHeartbeats 800000 in
theorem formed_mid (n : Nat) (x : List Int) (w : World) (hx : x.length = 32) (bx : byteOk x) (h0 : 1 ≤ bsize x) (h1 : bsize x < 26) (h2 : blast x = false) :
    Calls Try.prog 37 #[.agg (u8s x).toArray, .int .i64 n] w (RetB (formed n x) w) := by
  have HX : Hid (x.length = 32) := Lib.hid hx
  have HB : Hid (byteOk x) := Lib.hid bx
  obtain ⟨s, Hs⟩ : ∃ s, Hid (s = bsize x) := ⟨_, Lib.hid rfl⟩
  obtain ⟨fx, HF⟩ : ∃ fx, Hid (fx = formed n x) := ⟨_, Lib.hid rfl⟩
  rw [← HF.out]
  have HV : Hid (fx = false) := Lib.hid (by rw [HF.out]; exact formed_bad (.inr (.inr ⟨h2, by omega⟩)))
  have Hla : Hid (false = blast x) := Lib.hid h2.symm
  have g0 : decide ((s : Int) < 1) = false := by rw [Hs.out]; simp; omega
  have g1 : decide (26 < (s : Int)) = false := by rw [Hs.out]; simp; omega
  have g2' : ((s : Int) != 26) = true := by rw [Hs.out]; simp; omega
  clear h0 h1 h2
  clear hx bx
  go_enter Try.func37, Try.ntmps37
  go_upto_region 2 with (first
    | (refine wpList_box_arr rfl 61 (.tmp 0) rfl _ rfl ?_; intro g2 w1 Hg2 Hw1)
    | (refine wpList_load_blk rfl 61 (.tmp 2) rfl g2 _ 61 (blk_of Hg2 Hw1) rfl _ und61 rfl (info_32 HX) ?_)
    | (go_at_call 38; refine (size_at HX HB Hs _).mono ?_; rintro e w2 ⟨rfl, hb2⟩; have Hb2 := Lib.hid hb2; clear hb2))
  have HB2 : Hid (Blk w2 g2 61 (u8s x).toArray) := blk_more (blk_of Hg2 Hw1) Hb2
  have Hbel2 := Lib.hid (bel_box Hw1 Hb2)
  go_wp2_with (first
    | (refine wpList_load_blkG rfl 61 (.tmp 2) rfl g2 _ 61 HB2.out rfl _ und61 rfl (info_32 HX) ?_)
    | (go_at_call 39; refine (last_at HX HB Hla _).mono ?_; rintro e w3 ⟨rfl, hb3⟩; have Hb3 := Lib.hid hb3; clear hb3))
  go_ret
  exact ⟨ret_bool HV.out.symm, bel_more Hbel2.out Hb3⟩
theorem run_slice_dat (w : World) (g s : Nat) (hs : s ≤ 26) : (Instr.sliceAt 61 (.pointer (some ⟨g, 0, none⟩)) (some (.int .i64 5)) (some (.int .i64 (5 + (s : Int)))) none).run Try.prog w = .ok (.slice (some ⟨g, 5, none⟩) s 27) w := by
  have hn : Try.prog.arrayLen 61 = 32 := by kernel_rfl
  rw [run_sliceAt_array_lh w 61 ⟨g, 0, none⟩ (by kernel_rfl) .i64 .i64 5 (5 + (s : Int)) (by omega) (by omega) (by rw [hn]; omega)]
  have he : Try.prog.elem 61 = 5 := by kernel_rfl
  rw [he, sz5, Result.andThen_ok, hn, show (5 + (s : Int)).toNat = 5 + s by omega]
  simp [slicedAt, Addr.add]
theorem own_below {w w' : World} {base n size : Nat} {e : TypeId} {v : Value} {xs : List Value} (h : w.ownsRow base e size v n xs) (hb : Hid (Below w.heap.size w w')) : Hid (w'.ownsRow base e size v n xs) :=
  Lib.hid (own_chg h (Chg.of_below' (S := fun _ => False) hb.out) (fun _ _ h => h))
theorem formed_of {n : Nat} {x : List Int} {la : Bool} {F : List Int} {fx : Bool} (h1 : Hid (fx = formed n x)) (hla : Hid (la = blast x)) (h0 : 1 ≤ bsize x) (h26 : bsize x ≤ 26) (hl : blast x = true ∨ bsize x = 26) (hF : Hid (F = blk n (bdata x) la)) : Hid (fx = decide (x = F)) := by
  refine Lib.hid ?_
  rw [h1.out, hF.out, hla.out]
  unfold formed
  rw [Bool.eq_iff_iff]
  simp [h0, h26, hl]
theorem cloneB_at {ad : Addr} {c n : Nat} {l : List Int} {w : World} (hn : Hid (l.length = n)) (hr : Src w 1 (some ad) n (u8s l)) (hl : n ≤ 100000) :
    Calls Try.prog 48 #[.slice (some ad) n c] w (NewRow 5 1 n (u8s l) w) := by
  have h := hn.out
  subst h
  exact cloneB_some ad c l w hr hl
theorem mk_at {n m : Nat} {A : Option Addr} {c : Nat} {l : List Int} {w : World} {F : List Int} (hm : Hid (l.length = m)) (hF : Hid (F = blk n (l.take 26) (decide (l.length ≤ 26)))) (hr : RdB w w.heap.size A l) (hc : m ≤ c) (hc2 : c ≤ 9223372036854775807) (hn1 : n ≤ 100000) :
    Calls Try.prog 41 #[.int .i64 n, .slice A m c] w (fun e w' => e = .returned (.tuple #[.agg (u8s F).toArray, .int .i64 (min m 26 : Nat)]) ∧ Below w.heap.size w w') := by
  have h := hm.out
  subst h
  rw [hF.out]
  exact mk_any n A c l w hr hc hc2 hn1
theorem own_cap {w : World} {base : Nat} {e : TypeId} {size : Nat} {A : Option Addr} {n c : Nat} {xs : List Value} (h : w.ownsRow base e size (.slice A n c) n xs) : n ≤ c ∧ c ≤ 9223372036854775807 := by
  rcases h.2 with ⟨h, h'⟩ | ⟨g, cap, cur, h, _, _, hnc, hm, _⟩
  · injection h with _ h1 h2
    omega
  · injection h with _ h1 h2
    unfold maxLen at hm
    omega
theorem dat_src {w : World} {g : Nat} {t : TypeId} {x : List Int} {s : Nat} (hb : Hid (Blk w g t (u8s x).toArray)) (hx : Hid (x.length = 32)) (hs : Hid (s = bsize x)) (h26 : s ≤ 26) : Src w 1 (some ⟨g, 5, none⟩) s (u8s (bdata x)) := by
  have h := hs.out
  subst h
  refine ⟨by rw [u8s_len, bdata_len hx.out h26, Nat.mul_one], fun _ => ⟨_, rfl, fun j u hu => ?_⟩⟩
  rw [Go.WideShapes.add_plain, (hb.out).cell]
  have hj : j < bsize x := by
    have := (List.getElem?_eq_some_iff.1 hu).1
    rwa [u8s_len, bdata_len hx.out h26] at this
  rw [← hu]
  unfold bdata u8s
  simp only [List.getElem?_toArray, List.getElem?_map, List.getElem?_take, List.getElem?_drop]
  rw [if_pos hj]
theorem rdB_of_own {w : World} {base n c : Nat} {e : TypeId} {A : Option Addr} {l : List Int} (hl : Hid (l.length = n)) (h : w.ownsRow base e 1 (.slice A n c) n (u8s l)) : RdB w w.heap.size A l := by
  have e := hl.out
  subst e
  exact own_rdB h
theorem dat_len {x : List Int} {s : Nat} (hx : Hid (x.length = 32)) (hs : Hid (s = bsize x)) (h26 : s ≤ 26) : Hid ((bdata x).length = s) := by
  have h := hs.out
  subst h
  exact Lib.hid (bdata_len hx.out h26)
set_option maxHeartbeats 800000 in
theorem formed_last (n : Nat) (x : List Int) (w : World) (hx : x.length = 32) (bx : byteOk x) (hn : n ≤ 100000) (h0 : 1 ≤ bsize x) (h1 : bsize x ≤ 26) (h2 : blast x = true) :
    Calls Try.prog 37 #[.agg (u8s x).toArray, .int .i64 n] w (RetB (formed n x) w) := by
  have HX : Hid (x.length = 32) := Lib.hid hx
  have HB : Hid (byteOk x) := Lib.hid bx
  obtain ⟨s, Hs⟩ : ∃ s, Hid (s = bsize x) := ⟨_, Lib.hid rfl⟩
  obtain ⟨fx, HF⟩ : ∃ fx, Hid (fx = formed n x) := ⟨_, Lib.hid rfl⟩
  rw [← HF.out]
  have Hla : Hid (true = blast x) := Lib.hid h2.symm
  have hs26 : s ≤ 26 := by rw [Hs.out]; omega
  have hs26' : (s : Int) ≤ 26 := by omega
  have g0 : decide ((s : Int) < 1) = false := by rw [Hs.out]; simp; omega
  have g1 : decide (26 < (s : Int)) = false := by rw [Hs.out]; simp; omega
  have gk : (n : Int) ≤ 100000 := by omega
  have HD := dat_len HX Hs hs26
  have hsl := fun (w : World) (g : Nat) => run_slice_dat w g s hs26
  obtain ⟨F, HFF⟩ : ∃ F, Hid (F = blk n (bdata x) true) := ⟨_, Lib.hid rfl⟩
  have HFl : Hid (F.length = 32) := Lib.hid (by rw [HFF.out]; exact blk_len _ _ _ (by rw [HD.out]; exact hs26))
  have HFb : Hid (byteOk F) := Lib.hid (by rw [HFF.out]; exact blk_ok _ _ _ (byteOk_take (byteOk_drop HB.out _) _) (by rw [HD.out]; exact hs26))
  have HV := formed_of HF Hla h0 h1 (.inl h2) HFF
  have HFM : Hid (F = blk n ((bdata x).take 26) (decide ((bdata x).length ≤ 26))) := Lib.hid (by rw [HFF.out, List.take_of_length_le (by rw [HD.out]; exact hs26), decide_eq_true (by rw [HD.out]; exact hs26)])
  clear h0 h1 h2
  clear hx bx
  go_enter Try.func37, Try.ntmps37
  go_upto_region 2 with (first
    | (refine wpList_box_arr rfl 61 (.tmp 0) rfl _ rfl ?_; intro g2 w1 Hg2 Hw1)
    | (refine wpList_load_blk rfl 61 (.tmp 2) rfl g2 _ 61 (blk_of Hg2 Hw1) rfl _ und61 rfl (info_32 HX) ?_)
    | (go_at_call 38; refine (size_at HX HB Hs _).mono ?_; rintro e w2 ⟨rfl, hb2⟩; have Hb2 := Lib.hid hb2; clear hb2))
  have HB2 : Hid (Blk w2 g2 61 (u8s x).toArray) := blk_more (blk_of Hg2 Hw1) Hb2
  have Hbel2 := Lib.hid (bel_box Hw1 Hb2)
  go_upto_region 4 with (first
    | (refine wpList_load_blkG rfl 61 (.tmp 2) rfl g2 _ 61 HB2.out rfl _ und61 rfl (info_32 HX) ?_)
    | (go_at_call 39; refine (last_at HX HB Hla _).mono ?_; rintro e w3 ⟨rfl, hb3⟩; have Hb3 := Lib.hid hb3; clear hb3))
  have HB3 : Hid (Blk w3 g2 61 (u8s x).toArray) := blk_more HB2.out Hb3
  have Hbel3 := Lib.hid (bel_more Hbel2.out Hb3)
  clear Hb3 HB2 Hbel2
  go_upto_region 5 with (first
    | (go_at_call 48; refine (cloneB_at HD (dat_src HB3 HX Hs hs26) (Nat.le_trans hs26 (by decide))).mono ?_; rintro e w4 ⟨A4, c4, rfl, ho4, hb4⟩; have Ho4 := Lib.hid ho4; have Hb4 := Lib.hid hb4; clear ho4 hb4))
  have HB4 : Hid (Blk w4 g2 61 (u8s x).toArray) := blk_more HB3.out Hb4
  have Hbel4 := Lib.hid (bel_more Hbel3.out Hb4)
  clear Hb4 HB3 Hbel3
  go_upto_region 6 with (first
    | (refine wpList_load_blk rfl 61 (.tmp 2) rfl g2 _ 61 HB4.out rfl _ und61 rfl (info_32 HX) ?_)
    | (go_at_call 39; refine (last_at HX HB Hla _).mono ?_; rintro e w5 ⟨rfl, hb5⟩; have Hb5 := Lib.hid hb5; clear hb5))
  have HB5 : Hid (Blk w5 g2 61 (u8s x).toArray) := blk_more HB4.out Hb5
  have Hbel5 := Lib.hid (bel_more Hbel4.out Hb5)
  have Ho5 := own_below Ho4.out Hb5
  have hcap := own_cap Ho5.out
  have hcap1 := hcap.1
  have hcap2 := hcap.2
  clear Hb5 HB4 Hbel4 Ho4 hcap
  go_upto_region 7 with (first
    | (go_at_call 41; refine (mk_at HD HFM (rdB_of_own HD Ho5.out) hcap1 hcap2 hn).mono ?_; rintro e w6 ⟨rfl, hb6⟩; have Hb6 := Lib.hid hb6; clear hb6)
    | (refine wpList_alloc_arr rfl 61 rfl _ zero61 ?_; intro g7 w7 Hg7 Hw7)
    | (refine wpList_store_blk rfl 61 (.tmp 7) (.tmp 38) rfl g7 _ _ 61 (blk_of Hg7 Hw7) rfl rfl (info_32 HFl) (size_32 HFl) (u8s_all _) ?_; intro w8 Hb8 Ho8))
  have HB6 : Hid (Blk w6 g2 61 (u8s x).toArray) := blk_more HB5.out Hb6
  have Hbel6 := Lib.hid (bel_more Hbel5.out Hb6)
  clear Hb6 HB5 Hbel5 Ho5
  have HB8 : Hid (Blk w8 g2 61 (u8s x).toArray) := Lib.hid (by
    have h1 : Blk w7 g2 61 (u8s x).toArray := by rw [Hw7.out]; exact (HB6.out).alloc _
    exact h1.grown Ho8.out (fun e => by injection e with e; have := (HB6.out).lt; rw [Hg7.out] at e; omega))
  have Hbel8 : Hid (Below w.heap.size w w8) := Lib.hid (by
    have h1 : Below w.heap.size w w7 := by rw [Hw7.out]; exact (Hbel6.out).alloc (Hbel6.out).size _
    exact h1.trans ((Ho8.out).below (by have := h1.size; omega) (by rw [Hg7.out]; exact (Hbel6.out).size)))
  go_wp2_with (first
    | (refine wpList_load_blk rfl 61 (.tmp 2) rfl g2 _ 61 HB8.out rfl _ und61 rfl (info_32 HX) ?_)
    | (refine wpList_load_blk rfl 61 (.tmp 7) rfl g7 _ 61 Hb8.out rfl _ und61 rfl (info_32 HFl) ?_)
    | (refine wpList_eql61 rfl (.tmp 40) (.tmp 41) 61 rfl x F rfl rfl HX.out HFl.out HB.out HFb.out ?_))
  go_ret
  exact ⟨ret_bool HV.out.symm, Hbel8.out⟩
theorem lit_src (w : World) (l : List Int) : Src (w.alloc (.cells (u8s l).toArray 5)) 1 (some ⟨w.heap.size, 0, none⟩) l.length (u8s l) := by
  refine ⟨by rw [u8s_len, Nat.mul_one], fun _ => ⟨_, rfl, fun j u hu => ?_⟩⟩
  rw [Go.WideShapes.add_plain, (Blk.new w _ _).cell, Nat.zero_add]
  simpa using hu
theorem bel_app {w w3 w5 w9 : World} {o : Obj} {e : TypeId} {n size : Nat} {v : Value} {xs : List Value} (h3 : Below w.heap.size w w3) (h5 : Below w3.heap.size w3 w5) (ho : Hid (w5.ownsRow w3.heap.size e size v n xs)) (hg : Hid ((w5.alloc o).grownBy w9 v.ownBlock)) : Below w.heap.size w w9 := by
  have h : Below w.heap.size w w5 := h3.trans (h5.mono h3.size)
  exact Below.trans (h.alloc h.size _) ((Below.refl w.heap.size (w5.alloc o)).grown hg.out (by have := h.size; simp; omega) (fun k hk => Nat.le_trans h3.size ((ho.out).lt k hk).1))
set_option maxHeartbeats 800000 in
theorem formed_more (n : Nat) (x : List Int) (w : World) (hx : x.length = 32) (bx : byteOk x) (hn : n ≤ 100000) (h1 : bsize x = 26) (h2 : blast x = false) :
    Calls Try.prog 37 #[.agg (u8s x).toArray, .int .i64 n] w (RetB (formed n x) w) := by
  have HX : Hid (x.length = 32) := Lib.hid hx
  have HB : Hid (byteOk x) := Lib.hid bx
  obtain ⟨s, Hs⟩ : ∃ s, Hid (s = bsize x) := ⟨_, Lib.hid rfl⟩
  obtain ⟨fx, HF⟩ : ∃ fx, Hid (fx = formed n x) := ⟨_, Lib.hid rfl⟩
  rw [← HF.out]
  have Hla : Hid (false = blast x) := Lib.hid h2.symm
  have hs26 : s ≤ 26 := by rw [Hs.out]; omega
  have hs26' : (s : Int) ≤ 26 := by omega
  have g0 : decide ((s : Int) < 1) = false := by rw [Hs.out]; simp; omega
  have g1 : decide (26 < (s : Int)) = false := by rw [Hs.out]; simp; omega
  have g26 : ((s : Int) != 26) = false := by rw [Hs.out]; simp; omega
  have gk : (n : Int) ≤ 100000 := by omega
  have HD := dat_len HX Hs hs26
  have hsl := fun (w : World) (g : Nat) => run_slice_dat w g s hs26
  obtain ⟨F, HFF⟩ : ∃ F, Hid (F = blk n (bdata x) false) := ⟨_, Lib.hid rfl⟩
  have HFl : Hid (F.length = 32) := Lib.hid (by rw [HFF.out]; exact blk_len _ _ _ (by rw [HD.out]; exact hs26))
  have HFb : Hid (byteOk F) := Lib.hid (by rw [HFF.out]; exact blk_ok _ _ _ (byteOk_take (byteOk_drop HB.out _) _) (by rw [HD.out]; exact hs26))
  have HV := formed_of HF Hla (by omega) (by omega) (.inr h1) HFF
  have HD1 : Hid ((bdata x ++ [0]).length = s + 1) := Lib.hid (by rw [List.length_append, HD.out]; rfl)
  have HFM : Hid (F = blk n ((bdata x ++ [0]).take 26) (decide ((bdata x ++ [0]).length ≤ 26))) := Lib.hid (by
    have e : s = 26 := by rw [Hs.out]; exact h1
    rw [HFF.out, HD1.out, List.take_append_of_le_length (by rw [HD.out]; omega), List.take_of_length_le (by rw [HD.out]; omega), decide_eq_false (by omega)])
  clear h1 h2
  clear hx bx
  go_enter Try.func37, Try.ntmps37
  go_upto_region 2 with (first
    | (refine wpList_box_arr rfl 61 (.tmp 0) rfl _ rfl ?_; intro g2 w1 Hg2 Hw1)
    | (refine wpList_load_blk rfl 61 (.tmp 2) rfl g2 _ 61 (blk_of Hg2 Hw1) rfl _ und61 rfl (info_32 HX) ?_)
    | (go_at_call 38; refine (size_at HX HB Hs _).mono ?_; rintro e w2 ⟨rfl, hb2⟩; have Hb2 := Lib.hid hb2; clear hb2))
  have HB2 : Hid (Blk w2 g2 61 (u8s x).toArray) := blk_more (blk_of Hg2 Hw1) Hb2
  have Hbel2 := Lib.hid (bel_box Hw1 Hb2)
  go_upto_region 4 with (first
    | (refine wpList_load_blkG rfl 61 (.tmp 2) rfl g2 _ 61 HB2.out rfl _ und61 rfl (info_32 HX) ?_)
    | (go_at_call 39; refine (last_at HX HB Hla _).mono ?_; rintro e w3 ⟨rfl, hb3⟩; have Hb3 := Lib.hid hb3; clear hb3))
  have HB3 : Hid (Blk w3 g2 61 (u8s x).toArray) := blk_more HB2.out Hb3
  have Hbel3 := Lib.hid (bel_more Hbel2.out Hb3)
  clear Hb3 HB2 Hbel2
  go_upto_region 5 with (first
    | (go_at_call 48; refine (cloneB_at HD (dat_src HB3 HX Hs hs26) (Nat.le_trans hs26 (by decide))).mono ?_; rintro e w4 ⟨A4, c4, rfl, ho4, hb4⟩; have Ho4 := Lib.hid ho4; have Hb4 := Lib.hid hb4; clear ho4 hb4))
  have HB4 : Hid (Blk w4 g2 61 (u8s x).toArray) := blk_more HB3.out Hb4
  have Hbel4 := Lib.hid (bel_more Hbel3.out Hb4)
  have Hbel34 := Hb4
  have Hbel3' := Hbel3
  clear Hb4 HB3 Hbel3
  go_upto_region 8 with (first
    | (refine wpList_load_blk rfl 61 (.tmp 2) rfl g2 _ 61 HB4.out rfl _ und61 rfl (info_32 HX) ?_)
    | (go_at_call 39; refine (last_at HX HB Hla _).mono ?_; rintro e w5 ⟨rfl, hb5⟩; have Hb5 := Lib.hid hb5; clear hb5))
  have HB5 : Hid (Blk w5 g2 61 (u8s x).toArray) := blk_more HB4.out Hb5
  have Hbel5 := Lib.hid (bel_more Hbel4.out Hb5)
  have Ho5 := own_below Ho4.out Hb5
  have hcap := own_cap Ho5.out
  have hcap1 := hcap.1
  have hcap2 := hcap.2
  have Hbel35 := Lib.hid (bel_more Hbel34.out Hb5)
  clear Hb5 HB4 Hbel4 Ho4 hcap
  obtain ⟨i0, hi, hz0, hz1, hz2⟩ := info_parts row5
  have HOA := Lib.hid ((Ho5.out).alloc (.cells #[.int .u8 0] 5))
  have HSA : Hid (Src (w5.alloc (.cells #[.int .u8 0] 5)) 1 (some ⟨w5.heap.size, 0, none⟩) 1 (u8s [0])) := Lib.hid (lit_src w5 [0])
  have Hbase : Hid (Below w.heap.size w w5) := Hbel5
  obtain ⟨bs, Hbs⟩ : ∃ bs, Hid (bs = w3.heap.size) := ⟨_, Lib.hid rfl⟩
  have hbs : bs ≤ w5.heap.size + 1 := by rw [Hbs.out]; have := (Hbel35.out).size; omega
  rw [← Hbs.out] at HOA
  go_wp2_with (at_builtin; refine wpList_app rfl (.tmp 45) (.tmp 46) 23 rfl bs 5 i0 (.int .u8 0) 1 1 und23 hi hz0 hz1 hz2 rfl (by decide) _ s _ rfl HOA.out _ _ _ (u8s [0]) rfl HSA.out (u8s_one _) ?_ ?_ ?_ ?_)
  · unfold maxLen; omega
  · omega
  · simpa using hbs
  intro A9 c9 w9 Ho9 Hg9 Hx9
  have Ho9' : Hid (w9.ownsRow bs 5 1 (.slice A9 (s + 1) c9) (s + 1) (u8s (bdata x ++ [0]))) := Lib.hid (by rw [u8s_app]; exact Ho9.out)
  have HB9 : Hid (Blk w9 g2 61 (u8s x).toArray) := Lib.hid (((HB5.out).alloc _).grown Hg9.out (fun e => own_blk_ne (Ho5.out) HB5.out (by decide) e.symm))
  have hcap := own_cap Ho9'.out
  have hcap9 := hcap.1
  have hcap9' := hcap.2
  clear hcap
  have Hbel9 : Hid (Below w.heap.size w w9) := Lib.hid (bel_app Hbel3'.out Hbel35.out Ho5 Hg9)
  go_upto_region 9 with (first
    | (go_at_call 41; refine (mk_at HD1 HFM (rdB_of_own HD1 Ho9'.out) hcap9 hcap9' hn).mono ?_; rintro e w6 ⟨rfl, hb6⟩; have Hb6 := Lib.hid hb6; clear hb6)
    | (refine wpList_alloc_arr rfl 61 rfl _ zero61 ?_; intro g7 w7 Hg7 Hw7)
    | (refine wpList_store_blk rfl 61 (.tmp 9) (.tmp 49) rfl g7 _ _ 61 (blk_of Hg7 Hw7) rfl rfl (info_32 HFl) (size_32 HFl) (u8s_all _) ?_; intro w8 Hb8 Ho8))
  have HB6 : Hid (Blk w6 g2 61 (u8s x).toArray) := blk_more HB9.out Hb6
  have Hbel6 := Lib.hid (bel_more Hbel9.out Hb6)
  clear Hb6 HB5 Hbel5 Ho5 HB9 Hbel9
  have HB8 : Hid (Blk w8 g2 61 (u8s x).toArray) := Lib.hid (by
    have h1 : Blk w7 g2 61 (u8s x).toArray := by rw [Hw7.out]; exact (HB6.out).alloc _
    exact h1.grown Ho8.out (fun e => by injection e with e; have := (HB6.out).lt; rw [Hg7.out] at e; omega))
  have Hbel8 : Hid (Below w.heap.size w w8) := Lib.hid (by
    have h1 : Below w.heap.size w w7 := by rw [Hw7.out]; exact (Hbel6.out).alloc (Hbel6.out).size _
    exact h1.trans ((Ho8.out).below (by have := h1.size; omega) (by rw [Hg7.out]; exact (Hbel6.out).size)))
  go_wp2_with (first
    | (refine wpList_load_blk rfl 61 (.tmp 2) rfl g2 _ 61 HB8.out rfl _ und61 rfl (info_32 HX) ?_)
    | (refine wpList_load_blk rfl 61 (.tmp 9) rfl g7 _ 61 Hb8.out rfl _ und61 rfl (info_32 HFl) ?_)
    | (refine wpList_eql61 rfl (.tmp 51) (.tmp 52) 61 rfl x F rfl rfl HX.out HFl.out HB.out HFb.out ?_))
  go_ret
  exact ⟨ret_bool HV.out.symm, Hbel8.out⟩
theorem formed_any (n : Nat) (x : List Int) (w : World) (hn : n ≤ 100000) (hx : x.length = 32) (bx : byteOk x) :
    Calls Try.prog 37 #[.agg (u8s x).toArray, .int .i64 n] w (RetB (formed n x) w) := by
  by_cases h1 : bsize x < 1
  · exact formed_lo n x w hx bx h1
  by_cases h2 : 26 < bsize x
  · exact formed_hi n x w hx bx h2
  cases h3 : blast x with
  | true => exact formed_last n x w hx bx hn (by omega) (by omega) h3
  | false =>
    by_cases h4 : bsize x = 26
    · exact formed_more n x w hx bx hn h4 h3
    · exact formed_mid n x w hx bx (by omega) (by omega) h3
end Go.Proofs.Ytabnlnhnefjebaa
