/-
  Chapter 41: Bytes of the reference. The memory is that of the given program; no conditions.
-/
import Derived.Test.YtabnlnhnefjebaaRf5
namespace Go.Proofs.Ytabnlnhnefjebaa
open Go.RowKit
set_option linter.unusedVariables false
set_option linter.unusedSimpArgs false
/-- bytes of the call's own -/
structure Own5 (w : World) (A : Option Addr) (n c : Nat) (l : List Int) (wr : World) : Prop where
  row : wr.ownsRow w.heap.size 5 1 (.slice A n c) n (u8s l)
  bel : Below w.heap.size w wr
section
variable {w wr w' : World} {A A' : Option Addr} {n n' c c' m : Nat} {l d : List Int}
theorem Own5.below (h : Own5 w A n c l wr) (hb : Below wr.heap.size wr w') : Own5 w A n c l w' := ⟨(own_below h.row (Lib.hid hb)).out, h.bel.trans (hb.mono h.bel.size)⟩
theorem Own5.drewN (h : Own5 w A n c l wr) (k : Nat) : Own5 w A n c l (wr.drewN k) := ⟨h.row, below_drewN h.bel k⟩
theorem Own5.alloc (h : Own5 w A n c l wr) (o : Obj) : Own5 w A n c l (wr.alloc o) := ⟨h.row.alloc o, h.bel.alloc h.bel.size o⟩
theorem Own5.app (h : Own5 w A n c l wr) (ho : Hid (w'.ownsRow w.heap.size 5 1 (.slice A' (n + m) c') (n + m) (u8s l ++ u8s d))) (hg : Hid (wr.grownBy w' (Value.slice A n c).ownBlock)) : Own5 w A' (n + m) c' (l ++ d) w' :=
  ⟨by rw [u8s_app]; exact ho.out, h.bel.trans ((Below.refl w.heap.size wr).grown hg.out h.bel.size (fun k hk => (h.row.lt k hk).1))⟩
theorem Own5.len (h : Own5 w A n c l wr) : l.length = n := by have := h.row.1; rw [u8s_len, Nat.mul_one] at this; exact this
theorem Own5.cast (h : Own5 w A n c l wr) (e : n = n') : Own5 w A n' c l wr := e ▸ h
end
theorem own_src {w wr : World} {lo : Nat} {Ak : Option Addr} {ck m at_ : Nat} {r : List Int} (h : w.ownsRow lo 5 1 (.slice Ak m ck) m (u8s r)) (hb : Below w.heap.size w wr) (hat : at_ ≤ m) : Src wr 1 (if ck = at_ then Ak else Ak.map (·.add at_)) (min (at_ + 26) m - at_) (u8s ((r.drop at_).take 26)) := by
  have hl : r.length = m := by have := h.1; rw [u8s_len, Nat.mul_one] at this; exact this
  have hc := own_cap h
  subst hl
  have hr : RdB wr w.heap.size Ak r := RdB.below (own_rdB h) hb
  have h1 := (hr.cut hc.1 hat).take 26
  have h2 := RdB.src h1
  have e : ((r.drop at_).take 26).length = min (at_ + 26) r.length - at_ := by rw [List.length_take, List.length_drop]; omega
  rw [e] at h2
  exact h2
/-- the first five bytes of a block -/
def hd5 (n pl : Nat) (last : Bool) : List Int := [((n / 16777216 % 256 : Nat) : Int), ((n / 65536 % 256 : Nat) : Int), ((n / 256 % 256 : Nat) : Int), ((n % 256 : Nat) : Int), (pl : Int) + (if last then 128 else 0)]
theorem hd5_len (n pl : Nat) (last : Bool) : (hd5 n pl last).length = 5 := rfl
theorem blk_hd5 (n : Nat) (d : List Int) (last : Bool) : blk n d last = hd5 n d.length last ++ d ++ zeroN (26 - d.length) ++ [165] := rfl
theorem zeroN_succ (n : Nat) : zeroN (n + 1) = zeroN n ++ [0] := by unfold zeroN; rw [List.replicate_succ']
theorem lit5_src (w : World) (a b c d e : Int) : Src (w.alloc (.cells #[.int .u8 a, .int .u8 b, .int .u8 c, .int .u8 d, .int .u8 e] 5)) 1 (some ⟨w.heap.size, 0, none⟩) 5 (u8s [a, b, c, d, e]) := lit_src w [a, b, c, d, e]
theorem lit1_src (w : World) (a : Int) : Src (w.alloc (.cells #[.int .u8 a] 5)) 1 (some ⟨w.heap.size, 0, none⟩) 1 (u8s [a]) := lit_src w [a]
/-- the state of the loop over the parts of a record -/
structure PaL (T : List Int) (E : Nat) (r : List Int) (at_ nb : Nat) (l : List Int) : Prop where
  tot : l ++ (brec nb (r.drop at_)).flatten = T
  num : nb + need (r.drop at_) = E
  len : l.length = nb * 32
theorem PaL.next {T : List Int} {E : Nat} {r : List Int} {at_ nb : Nat} {l : List Int} (h : PaL T E r at_ nb l) (hp : at_ < r.length) : PaL T E r (at_ + 26) (nb + 1) (l ++ blk (nb + 1) ((r.drop at_).take 26) (decide ((r.drop at_).length ≤ 26))) := by
  have hne : r.drop at_ ≠ [] := fun e => by have := congrArg List.length e; simp at this; omega
  have hd : (r.drop at_).drop 26 = r.drop (at_ + 26) := by rw [List.drop_drop]
  refine ⟨?_, ?_, ?_⟩
  · rw [← h.tot, brec_cons nb _ hne, hd]; simp
  · rw [← h.num, need_drop _ hne, hd]; omega
  · rw [List.length_append, h.len, blk_len _ _ _ (by rw [List.length_take]; omega)]; omega
theorem PaL.done {T : List Int} {E : Nat} {r : List Int} {at_ nb : Nat} {l : List Int} (h : PaL T E r at_ nb l) (hp : r.length ≤ at_) : l = T ∧ nb = E := by
  have h1 := h.tot
  have h2 := h.num
  rw [List.drop_of_length_le hp, brec_nil] at h1
  rw [List.drop_of_length_le hp, need_nil] at h2
  simp at h1
  exact ⟨h1, h2⟩
theorem PaL.start (rs : List (List Int)) (i : Nat) (hi : i < rs.length) (hb : ∀ r ∈ rs, byteOk r) : PaL (brecs 0 (rs.take (i + 1))).flatten (needs (rs.take (i + 1))) rs[i] 0 (needs (rs.take i)) (brecs 0 (rs.take i)).flatten := by
  refine ⟨?_, ?_, ?_⟩
  · rw [take_snoc rs i hi, brecs_snoc, List.flatten_append, Nat.zero_add]; rfl
  · rw [needs_take_succ rs i hi]; rfl
  · rw [flat_len _ (fun x hx => (brecs_each (rs.take i) (fun r hr => hb r (List.mem_of_mem_take hr)) 0 x hx).1), brecs_len]
set_option maxRecDepth 100000 in
set_option maxHeartbeats 6400000 in
theorem rbytes_any (A : Option Addr) (c n : Nat) (rs : List (List Int)) (vs : List Value) (lo : Nat) (w : World) (hn : Hid (rs.length = n)) (h : w.ownsRow lo 23 1 (.slice A n c) n vs) (hr : RecV w lo rs vs) (hl : n ≤ 100000) (hb : ∀ r ∈ rs, byteOk r ∧ r.length ≤ 100000) (hnd : needs rs ≤ 20000) :
    Calls Try.prog 13 #[.slice A n c] w (NewRow 5 1 (needs rs * 32) (u8s (bytes rs)) w) := by
  have h' : w.ownsRow lo 23 1 (.slice A rs.length c) rs.length vs := by rw [hn.out]; exact h
  have HO := Lib.hid h'
  have HR := Lib.hid hr
  have HB := Lib.hid hb
  have HND := Lib.hid hnd
  clear h hr hb h' hnd
  obtain ⟨i5, hi5, hz50, hz51, hz52⟩ := info_parts row5
  have HI5 := Lib.hid hi5
  have HZ50 := Lib.hid hz50
  have HZ51 := Lib.hid hz51
  have HZ52 := Lib.hid hz52
  clear hi5 hz50 hz51 hz52
  go_enter Try.func13, Try.ntmps13
  go_wp2
  go_loopw [3, 4, 5] (fun v3 v4 v5 wr => ∃ (i nb : Nat) (A3 : Option Addr) (c3 : Nat), i ≤ n ∧ v5 = .int .i64 i ∧ v4 = .int .i64 nb ∧ v3 = .slice A3 (nb * 32) c3 ∧ nb = needs (rs.take i) ∧ Own5 w A3 (nb * 32) c3 (brecs 0 (rs.take i)).flatten wr) (fun _ _ v5 _ => n - (intOf v5).toNat)
  case atStart => exact ⟨0, 0, none, 0, Nat.zero_le _, rfl, rfl, rfl, rfl, ⟨World.ownsRow_nil _ _ _ _, Below.refl _ _⟩⟩
  case round =>
    obtain ⟨i, nb0, A3, c3, hi, rfl, rfl, rfl, hnb0, hown⟩ := hrel
    obtain ⟨wo, rfl⟩ : ∃ wo : World, wo = wr := ⟨_, rfl⟩
    have HNB := Lib.hid hnb0
    have HOW := Lib.hid hown
    have hnbd : nb0 ≤ 20000 := by rw [hnb0]; exact Nat.le_trans (needs_take_le rs i) HND.out
    clear hnb0 hown
    by_cases hlt : i < n
    · have hir : i < rs.length := by rw [hn.out]; exact hlt
      obtain ⟨g, rfl, hg⟩ := recs_addr HO.out (by omega)
      obtain ⟨Ak, ck, hcell, hrow⟩ := recs_cell HO.out HR.out rfl hir
      have HCell := Lib.hid hcell
      have HRow := Lib.hid hrow
      have HRb := Lib.hid (HB.out _ (List.getElem_mem hir)).1
      have hmb := (HB.out _ (List.getElem_mem hir)).2
      have HPa0 := Lib.hid (PaL.start rs i hir (fun r h => (HB.out r h).1))
      obtain ⟨T, HT⟩ : ∃ T, Hid (T = (brecs 0 (rs.take (i + 1))).flatten) := ⟨_, Lib.hid rfl⟩
      obtain ⟨E, HE⟩ : ∃ E, Hid (E = needs (rs.take (i + 1))) := ⟨_, Lib.hid rfl⟩
      have hEb : E ≤ 20000 := by rw [HE.out]; exact Nat.le_trans (needs_take_le rs (i + 1)) HND.out
      rw [← HT.out, ← HE.out, ← HNB.out] at HPa0
      obtain ⟨r, Hr⟩ : ∃ r, Hid (r = rs[i]) := ⟨_, Lib.hid rfl⟩
      rw [← Hr.out] at HCell HRow HRb hmb HPa0
      obtain ⟨m, Hm⟩ : ∃ m, Hid (m = r.length) := ⟨_, Lib.hid rfl⟩
      rw [← Hm.out] at HCell HRow hmb
      have hck := own_cap HRow.out
      have hck1 := hck.1
      have hck2 := hck.2
      clear hcell hrow hck
      go_upto_region 7 with (fail)
      go_loopw [3, 4, 6] (fun v3 v4 v6 wr => ∃ (at_ nb : Nat) (A3 : Option Addr) (c3 : Nat) (l : List Int), at_ ≤ m + 26 ∧ v6 = .int .i64 at_ ∧ v4 = .int .i64 nb ∧ v3 = .slice A3 (nb * 32) c3 ∧ PaL T E r at_ nb l ∧ Own5 w A3 (nb * 32) c3 l wr) (fun _ _ v6 _ => m + 26 - (intOf v6).toNat)
      case atStart => exact ⟨0, nb0, A3, c3, _, Nat.zero_le _, rfl, rfl, rfl, HPa0.out, HOW.out⟩
      case round =>
        clear HPa0 HOW HNB hnbd
        obtain ⟨at_, nb, A3, c3, l, hat, rfl, rfl, rfl, hpa, hown⟩ := hrel
        have HPa := Lib.hid hpa
        have HOW := Lib.hid hown
        have hnb : nb ≤ 20000 := by have := hpa.num; omega
        have y0 : wr.cell? ⟨g, i, none⟩ = some (.slice Ak m ck) := by rw [← HCell.out]; exact (HOW.out).bel.cell hg
        have HY := Lib.hid y0
        clear hpa hown
        by_cases hlt2 : at_ < m
        · obtain ⟨pl, Hpl⟩ : ∃ pl, Hid (min (at_ + 26) m - at_ = pl) := ⟨_, Lib.hid rfl⟩
          obtain ⟨Ap, HAp⟩ : ∃ Ap, Hid ((if ck = at_ then Ak else Ak.map (·.add at_)) = Ap) := ⟨_, Lib.hid rfl⟩
          obtain ⟨d, Hd⟩ : ∃ d, Hid (d = (r.drop at_).take 26) := ⟨_, Lib.hid rfl⟩
          have Hdl : Hid (d.length = pl) := Lib.hid (by rw [Hd.out, ← Hpl.out, List.length_take, List.length_drop, ← Hm.out]; omega)
          have hpl1 : pl ≤ 26 := by rw [← Hpl.out]; omega
          have hpl0 : 1 ≤ pl := by rw [← Hpl.out]; omega
          have hpli : (pl : Int) ≤ 26 := by omega
          go_upto_region 10 with (fail)
          refine part_region 10 27 0 5 6 7 (by kernel_rfl) (by decide) (by decide) (by decide) (by decide) (show 40 < 85 from by decide) g n c i at_ m ck Ak rfl rfl rfl hlt HY.out (Nat.le_of_lt hlt2) hck1 hmb ?_
          intro z0 z1 z2 z3 z4 z5 z6 z7 z8 z9 z10 z11 z12 z13 nq
          rw [Hpl.out, HAp.out]
          simp only [Nat.reduceAdd, Act.put, List.setIfInBounds_toArray, List.set_cons_zero, List.set_cons_succ]
          have HOq := Lib.hid ((HOW.out).drewN nq)
          obtain ⟨num, Hnum⟩ : ∃ num : Int, Hid ((nb : Int) + 1 = num) := ⟨_, Lib.hid rfl⟩
          have hn0 : 0 ≤ num := by rw [← Hnum.out]; omega
          have hn1 : num ≤ 100000 := by rw [← Hnum.out]; omega
          rw [Hnum.out]
          have y1 : (wr.drewN nq).cell? ⟨g, i, none⟩ = some (.slice Ak m ck) := HY.out
          clear y0
          by_cases hlast : m ≤ at_ + 26
          · have hl1 : (m : Int) ≤ (at_ : Int) + 26 := by omega
            have H5 : Hid ([num / 16777216, num / 65536, num / 256 % 256, num % 256, (pl : Int) + 128] = hd5 (nb + 1) pl true) := Lib.hid (by rw [← Hnum.out]; unfold hd5; simp; omega)
            go_wp2_with (at_builtin; refine wpList_app rfl (.tmp 54) (.tmp 67) 23 rfl w.heap.size 5 i5 (.int .u8 0) 1 1 und23 HI5.out HZ50.out HZ51.out HZ52.out rfl (by decide) _ (nb * 32) _ rfl ((HOq.out).alloc _).row _ _ _ _ rfl (lit5_src _ _ _ _ _ _) (u8s_one _) ?_ ?_ ?_ ?_)
            · unfold maxLen; omega
            · omega
            · have := (HOW.out).bel.size; first | omega | (simp; omega)
            intro A5 c5 w5 Ho5 Hg5 Hx5
            have HO5 := Lib.hid (((HOq.out).alloc _).app Ho5 Hg5)
            rw [H5.out] at HO5
            have HSrc : Hid (Src w5 1 Ap pl (u8s d)) := Lib.hid (by rw [← HAp.out, ← Hpl.out, Hd.out]; exact own_src HRow.out (HO5.out).bel (Nat.le_of_lt hlt2))
            clear Ho5 Hg5 Hx5 H5 HOq y1 HY
            go_wp2_with (at_builtin; refine wpList_app rfl (.tmp 69) (.tmp 70) 23 rfl w.heap.size 5 i5 (.int .u8 0) 1 1 und23 HI5.out HZ50.out HZ51.out HZ52.out rfl (by decide) _ (nb * 32 + 5) _ rfl (HO5.out).row _ _ _ _ rfl HSrc.out (u8s_one _) ?_ ?_ ?_ ?_)
            · unfold maxLen; omega
            · omega
            · have := (HO5.out).bel.size; first | omega | (simp; omega)
            intro A6 c6 w6 Ho6 Hg6 Hx6
            have HO6 := Lib.hid ((HO5.out).app Ho6 Hg6)
            clear Ho6 Hg6 Hx6 HSrc HO5
            go_wp2
            obtain ⟨X, HX⟩ : ∃ X, Hid (X = l ++ hd5 (nb + 1) pl true ++ d) := ⟨_, Lib.hid rfl⟩
            rw [← HX.out] at HO6
            have HXe : Hid (X ++ zeroN (26 - pl) ++ [165] = l ++ blk (nb + 1) ((r.drop at_).take 26) (decide ((r.drop at_).length ≤ 26))) := Lib.hid (by
              have e1 : decide ((r.drop at_).length ≤ 26) = true := by rw [List.length_drop, ← Hm.out]; simp; omega
              rw [HX.out, e1, ← Hd.out, blk_hd5, Hdl.out]
              simp)
            go_loopw [3, 9] (fun v3 v9 wr => ∃ (k : Nat) (A3 : Option Addr) (c3 : Nat), pl ≤ k ∧ k ≤ 26 ∧ v9 = .int .i64 k ∧ v3 = .slice A3 (nb * 32 + 5 + k) c3 ∧ Own5 w A3 (nb * 32 + 5 + k) c3 (X ++ zeroN (k - pl)) wr) (fun _ v9 _ => 26 - (intOf v9).toNat)
            case atStart => exact ⟨pl, A6, c6, Nat.le_refl _, hpl1, rfl, rfl, by rw [Nat.sub_self]; simpa [zeroN] using HO6.out⟩
            case round =>
              clear HO6 HOW
              obtain ⟨k, A3, c3, hk1, hk2, rfl, rfl, hown⟩ := hrel
              have HOW := Lib.hid hown
              clear hown
              by_cases hlt3 : k < 26
              · go_wp2_with (at_builtin; refine wpList_app rfl (.tmp 78) (.tmp 79) 23 rfl w.heap.size 5 i5 (.int .u8 0) 1 1 und23 HI5.out HZ50.out HZ51.out HZ52.out rfl (by decide) _ (nb * 32 + 5 + k) _ rfl ((HOW.out).alloc _).row _ _ _ _ rfl (lit1_src _ _) (u8s_one _) ?_ ?_ ?_ ?_)
                · unfold maxLen; omega
                · omega
                · have := (HOW.out).bel.size; first | omega | (simp; omega)
                intro A7 c7 w7 Ho7 Hg7 Hx7
                have HO7 : Hid (Own5 w A7 (nb * 32 + 5 + (k + 1)) c7 (X ++ zeroN (k + 1 - pl)) w7) := Lib.hid (by
                  have := ((HOW.out).alloc _).app Ho7 Hg7
                  rw [show k + 1 - pl = (k - pl) + 1 by omega, zeroN_succ, ← List.append_assoc]
                  exact this)
                clear Ho7 Hg7 Hx7 HOW
                go_wp2
                go_roundw
                case rel => exact ⟨k + 1, A7, c7, by omega, by omega, by go_num, rfl, HO7.out⟩
                case measure => simp [intOf]; omega
              · obtain rfl : k = 26 := by omega
                go_wp2_with (at_builtin; refine wpList_app rfl (.tmp 81) (.tmp 82) 23 rfl w.heap.size 5 i5 (.int .u8 0) 1 1 und23 HI5.out HZ50.out HZ51.out HZ52.out rfl (by decide) _ (nb * 32 + 5 + 26) _ rfl ((HOW.out).alloc _).row _ _ _ _ rfl (lit1_src _ _) (u8s_one _) ?_ ?_ ?_ ?_)
                · unfold maxLen; omega
                · omega
                · have := (HOW.out).bel.size; first | omega | (simp; omega)
                intro A7 c7 w7 Ho7 Hg7 Hx7
                have HO7 : Hid (Own5 w A7 ((nb + 1) * 32) c7 (l ++ blk (nb + 1) ((r.drop at_).take 26) (decide ((r.drop at_).length ≤ 26))) w7) := Lib.hid (by
                  have := ((HOW.out).alloc _).app Ho7 Hg7
                  rw [HXe.out] at this
                  exact this.cast (by omega))
                have HPn := Lib.hid ((HPa.out).next (by rw [← Hm.out]; exact hlt2))
                clear Ho7 Hg7 Hx7 HOW
                go_wp2
                go_roundw
                case rel => exact ⟨at_ + 26, nb + 1, A7, c7, _, by omega, by go_num, by rw [← Hnum.out]; go_num, by rw [show nb * 32 + 5 + 26 + 1 = (nb + 1) * 32 by omega], HPn.out, HO7.out⟩
                case measure => simp [intOf]; omega
          · have hl1 : ¬ (m : Int) ≤ (at_ : Int) + 26 := by omega
            have H5 : Hid ([num / 16777216, num / 65536, num / 256 % 256, num % 256, (pl : Int)] = hd5 (nb + 1) pl false) := Lib.hid (by rw [← Hnum.out]; unfold hd5; simp; omega)
            go_wp2_with (at_builtin; refine wpList_app rfl (.tmp 54) (.tmp 67) 23 rfl w.heap.size 5 i5 (.int .u8 0) 1 1 und23 HI5.out HZ50.out HZ51.out HZ52.out rfl (by decide) _ (nb * 32) _ rfl ((HOq.out).alloc _).row _ _ _ _ rfl (lit5_src _ _ _ _ _ _) (u8s_one _) ?_ ?_ ?_ ?_)
            · unfold maxLen; omega
            · omega
            · have := (HOW.out).bel.size; first | omega | (simp; omega)
            intro A5 c5 w5 Ho5 Hg5 Hx5
            have HO5 := Lib.hid (((HOq.out).alloc _).app Ho5 Hg5)
            rw [H5.out] at HO5
            have HSrc : Hid (Src w5 1 Ap pl (u8s d)) := Lib.hid (by rw [← HAp.out, ← Hpl.out, Hd.out]; exact own_src HRow.out (HO5.out).bel (Nat.le_of_lt hlt2))
            clear Ho5 Hg5 Hx5 H5 HOq y1 HY
            go_wp2_with (at_builtin; refine wpList_app rfl (.tmp 69) (.tmp 70) 23 rfl w.heap.size 5 i5 (.int .u8 0) 1 1 und23 HI5.out HZ50.out HZ51.out HZ52.out rfl (by decide) _ (nb * 32 + 5) _ rfl (HO5.out).row _ _ _ _ rfl HSrc.out (u8s_one _) ?_ ?_ ?_ ?_)
            · unfold maxLen; omega
            · omega
            · have := (HO5.out).bel.size; first | omega | (simp; omega)
            intro A6 c6 w6 Ho6 Hg6 Hx6
            have HO6 := Lib.hid ((HO5.out).app Ho6 Hg6)
            clear Ho6 Hg6 Hx6 HSrc HO5
            go_wp2
            obtain ⟨X, HX⟩ : ∃ X, Hid (X = l ++ hd5 (nb + 1) pl false ++ d) := ⟨_, Lib.hid rfl⟩
            rw [← HX.out] at HO6
            have HXe : Hid (X ++ zeroN (26 - pl) ++ [165] = l ++ blk (nb + 1) ((r.drop at_).take 26) (decide ((r.drop at_).length ≤ 26))) := Lib.hid (by
              have e1 : decide ((r.drop at_).length ≤ 26) = false := by rw [List.length_drop, ← Hm.out]; simp; omega
              rw [HX.out, e1, ← Hd.out, blk_hd5, Hdl.out]
              simp)
            go_loopw [3, 9] (fun v3 v9 wr => ∃ (k : Nat) (A3 : Option Addr) (c3 : Nat), pl ≤ k ∧ k ≤ 26 ∧ v9 = .int .i64 k ∧ v3 = .slice A3 (nb * 32 + 5 + k) c3 ∧ Own5 w A3 (nb * 32 + 5 + k) c3 (X ++ zeroN (k - pl)) wr) (fun _ v9 _ => 26 - (intOf v9).toNat)
            case atStart => exact ⟨pl, A6, c6, Nat.le_refl _, hpl1, rfl, rfl, by rw [Nat.sub_self]; simpa [zeroN] using HO6.out⟩
            case round =>
              clear HO6 HOW
              obtain ⟨k, A3, c3, hk1, hk2, rfl, rfl, hown⟩ := hrel
              have HOW := Lib.hid hown
              clear hown
              by_cases hlt3 : k < 26
              · go_wp2_with (at_builtin; refine wpList_app rfl (.tmp 78) (.tmp 79) 23 rfl w.heap.size 5 i5 (.int .u8 0) 1 1 und23 HI5.out HZ50.out HZ51.out HZ52.out rfl (by decide) _ (nb * 32 + 5 + k) _ rfl ((HOW.out).alloc _).row _ _ _ _ rfl (lit1_src _ _) (u8s_one _) ?_ ?_ ?_ ?_)
                · unfold maxLen; omega
                · omega
                · have := (HOW.out).bel.size; first | omega | (simp; omega)
                intro A7 c7 w7 Ho7 Hg7 Hx7
                have HO7 : Hid (Own5 w A7 (nb * 32 + 5 + (k + 1)) c7 (X ++ zeroN (k + 1 - pl)) w7) := Lib.hid (by
                  have := ((HOW.out).alloc _).app Ho7 Hg7
                  rw [show k + 1 - pl = (k - pl) + 1 by omega, zeroN_succ, ← List.append_assoc]
                  exact this)
                clear Ho7 Hg7 Hx7 HOW
                go_wp2
                go_roundw
                case rel => exact ⟨k + 1, A7, c7, by omega, by omega, by go_num, rfl, HO7.out⟩
                case measure => simp [intOf]; omega
              · obtain rfl : k = 26 := by omega
                go_wp2_with (at_builtin; refine wpList_app rfl (.tmp 81) (.tmp 82) 23 rfl w.heap.size 5 i5 (.int .u8 0) 1 1 und23 HI5.out HZ50.out HZ51.out HZ52.out rfl (by decide) _ (nb * 32 + 5 + 26) _ rfl ((HOW.out).alloc _).row _ _ _ _ rfl (lit1_src _ _) (u8s_one _) ?_ ?_ ?_ ?_)
                · unfold maxLen; omega
                · omega
                · have := (HOW.out).bel.size; first | omega | (simp; omega)
                intro A7 c7 w7 Ho7 Hg7 Hx7
                have HO7 : Hid (Own5 w A7 ((nb + 1) * 32) c7 (l ++ blk (nb + 1) ((r.drop at_).take 26) (decide ((r.drop at_).length ≤ 26))) w7) := Lib.hid (by
                  have := ((HOW.out).alloc _).app Ho7 Hg7
                  rw [HXe.out] at this
                  exact this.cast (by omega))
                have HPn := Lib.hid ((HPa.out).next (by rw [← Hm.out]; exact hlt2))
                clear Ho7 Hg7 Hx7 HOW
                go_wp2
                go_roundw
                case rel => exact ⟨at_ + 26, nb + 1, A7, c7, _, by omega, by go_num, by rw [← Hnum.out]; go_num, by rw [show nb * 32 + 5 + 26 + 1 = (nb + 1) * 32 by omega], HPn.out, HO7.out⟩
                case measure => simp [intOf]; omega
        · have HD := Lib.hid ((HPa.out).done (by rw [← Hm.out]; omega))
          have HOf : Hid (Own5 w A3 (E * 32) c3 T wr) := Lib.hid (by have := HOW.out; rw [(HD.out).1, (HD.out).2] at this; exact this)
          obtain rfl : nb = E := (HD.out).2
          go_wp2
          go_roundw
          case rel => exact ⟨i + 1, nb, A3, c3, by omega, by go_num, rfl, rfl, HE.out, by rw [← HT.out]; exact HOf.out⟩
          case measure => simp [intOf]; omega
    · obtain rfl : i = n := by omega
      have HE1 : Hid (rs.take i = rs) := Lib.hid (List.take_of_length_le (by rw [hn.out]; exact Nat.le_refl _))
      rw [HE1.out] at HNB HOW
      go_wp2
      go_ret
      exact ⟨A3, c3, by rw [← HNB.out]; rfl, by rw [← HNB.out]; exact (HOW.out).row, (HOW.out).bel⟩
end Go.Proofs.Ytabnlnhnefjebaa
