/-
  Contracts of Instants, first, First, begin, Begin and Day of package payrollref4.
-/
import Derived.Test.YtagkdkkpgcolkaaRef4b
namespace Go.Proofs.Ytagkdkkpgcolkaa
open Go.RowKit
set_option linter.unusedVariables false
set_option linter.unusedSimpArgs false

/-- a zone's variable stays while only new blocks come -/
theorem box_calc {w W W' : World} {o : Int} {A : Option Addr} {n c : Nat} {t : TypeId} (h : Blk W w.heap.size t #[.int .i64 o, .slice A n c]) (hb : Below W.heap.size W W') : Blk W' w.heap.size t #[.int .i64 o, .slice A n c] := h.below hb h.lt
/-- behind k parts -/
def PastK (o : Int) (l : List (Int × Int)) (loc : Int) (k : Nat) : Prop := (k ≤ l.length → Past o l loc k) ∧ (l.length < k → firstV o l loc = 120968640)
theorem pastK_next {o : Int} {l : List (Int × Int)} {loc : Int} {k : Nat} (hV : ZVal o l) (h : PastK o l loc k) (hk : k ≤ l.length) (hc : sLast l k < sFrom l k ∨ sLast l k + sOff o l k < loc) : PastK o l loc (k + 1) := by
  by_cases hlt : k < l.length
  · exact ⟨fun _ => past_next (h.1 hk) hlt hc, fun h => by omega⟩
  · obtain rfl : k = l.length := by omega
    exact ⟨fun h => by omega, fun _ => past_end hV (h.1 hk) hc⟩

section
variable (A : Option Addr) (c B : Nat) (o : Int) (l : List (Int × Int)) (w : World) (hr : RdP w B A l) (hB : B ≤ w.heap.size)
include hr hB
set_option maxHeartbeats 1600000 in
theorem rfirst_any (hV : ZVal o l) (loc : Int) : Calls Try.prog 47 #[.agg #[.int .i64 o, .slice A l.length c], .int .i64 loc] w (RetI (firstV o l loc) w) := by
  have HS : Hid (∀ (k : Nat) W, k ≤ l.length → Below w.heap.size w W → Calls Try.prog 52 #[.agg #[.int .i64 o, .slice A l.length c], .int .i64 (k : Int)] W (RetIII (sFrom l k) (sLast l k) (sOff o l k) W)) := Lib.hid (fun k W hk hW => segment_any A c B o l W (hr.below (hW.mono hB)) (Nat.le_trans hB hW.size) hV k hk)
  have HV := Lib.hid hV
  have h64 := hV.1
  clear hr hV
  go_enter Try.func47, Try.ntmps47
  go_wp2
  go_loopw [5, 6, 7, 8] (fun i _ _ _ wr => ∃ k : Nat, k ≤ l.length + 1 ∧ i = .int .i64 k ∧ PastK o l loc k ∧ Below w.heap.size w wr ∧ Blk wr w.heap.size 25 #[.int .i64 o, .slice A l.length c]) (fun i _ _ _ _ => l.length + 1 - (intOf i).toNat)
  case atStart => exact ⟨0, Nat.zero_le _, rfl, ⟨fun _ => past_zero o l loc, fun h => by omega⟩, (Below.refl _ _).alloc (Nat.le_refl _) _, Blk.new _ _ _⟩
  case round =>
    obtain ⟨k, hk, rfl, hp, hbl, hbx⟩ := hrel
    have HP := Lib.hid hp
    have HBL := Lib.hid hbl
    have HBX := Lib.hid hbx
    have z0 := hbx.cell 0
    have z1 := hbx.cell 1
    simp at z0 z1
    clear hp hbl hbx
    by_cases hle : k ≤ l.length
    · have f1 := sFrom_bd HV.out k hle
      have f2 := sLast_bd HV.out k
      have f3 := sOff_bd HV.out k hle
      go_wp2_with fail
      refine (HS.out k _ hle HBL.out).mono ?_
      rintro e w1 ⟨rfl, hb⟩
      have HB1 := Lib.hid (HBL.out.trans (hb.mono HBL.out.size))
      have HX1 := Lib.hid (box_calc HBX.out hb)
      clear hb z0 z1
      have HN : Hid (sLast l k < sFrom l k ∨ sLast l k + sOff o l k < loc → PastK o l loc (k + 1)) := Lib.hid (pastK_next HV.out HP.out hle)
      have HF : Hid (sFrom l k ≤ sLast l k → loc ≤ sLast l k + sOff o l k → firstV o l loc = max (sFrom l k) (loc - sOff o l k)) := Lib.hid (past_found HV.out (HP.out.1 hle) hle)
      generalize sFrom l k = a at *
      generalize sLast l k = b at *
      generalize sOff o l k = s at *
      by_cases h1 : b < a
      · have d1 : decide (b < a) = true := by simpa using h1
        have hn := Lib.hid (HN.out (.inl h1))
        clear h1
        go_wp2
        go_roundw
        case rel => exact ⟨k + 1, by omega, by go_num, hn.out, HB1.out, HX1.out⟩
        case measure => simp [intOf]; omega
      · have d1 : decide (b < a) = false := by simpa using h1
        by_cases h2 : b + s < loc
        · have d2 : decide (b + s < loc) = true := by simpa using h2
          have hn := Lib.hid (HN.out (.inr h2))
          clear h1
          go_wp2
          go_roundw
          case rel => exact ⟨k + 1, by omega, by go_num, hn.out, HB1.out, HX1.out⟩
          case measure => simp [intOf]; omega
        · have d2 : decide (b + s < loc) = false := by simpa using h2
          have hf := Lib.hid (HF.out (by omega) (by omega))
          by_cases h3 : loc ≤ a + s
          · have d3 : decide (loc ≤ a + s) = true := by simpa using h3
            go_wp2
            go_ret
            exact ⟨ret_int (by rw [hf.out]; omega), HB1.out⟩
          · have d3 : decide (loc ≤ a + s) = false := by simpa using h3
            go_wp2
            go_ret
            exact ⟨ret_int (by rw [hf.out]; omega), HB1.out⟩
    · have hf := Lib.hid (HP.out.2 (by omega))
      go_wp2
      go_ret
      exact ⟨ret_int hf.out.symm, HBL.out⟩

variable (hl : l.length ≤ 9223372036854775807)
include hl
set_option maxHeartbeats 800000 in
theorem rFirst_any (loc : Int) : Calls Try.prog 35 #[.agg #[.int .i64 o, .slice A l.length c], .int .i64 loc] w (RetII (firstR o l loc) (zerr o l) w) := by
  have HC : Hid (∀ W, Below w.heap.size w W → Calls Try.prog 31 #[.agg #[.int .i64 o, .slice A l.length c]] W (RetI (zerr o l) W)) := Lib.hid (fun W hW => rvalid_any A c B o l W (hr.below (hW.mono hB)) (Nat.le_trans hB hW.size) hl)
  have HF : Hid (ZVal o l → ∀ W, Below w.heap.size w W → Calls Try.prog 47 #[.agg #[.int .i64 o, .slice A l.length c], .int .i64 loc] W (RetI (firstV o l loc) W)) := Lib.hid (fun hV W hW => rfirst_any A c B o l W (hr.below (hW.mono hB)) (Nat.le_trans hB hW.size) hV loc)
  have HA : Hid (∀ ob, Below w.heap.size w (w.alloc ob)) := Lib.hid (fun ob => (Below.refl _ _).alloc (Nat.le_refl _) ob)
  clear hr
  by_cases hz : zerr o l = 0
  · have HV := Lib.hid (zval_of hz)
    have HE : Hid (firstR o l loc = firstV o l loc) := Lib.hid (if_pos hz)
    have HZ := Lib.hid hz
    rw [hz] at HC
    clear hz
    go_enter Try.func35, Try.ntmps35
    go_wp2_with fail
    refine (HC.out _ (HA.out _)).mono ?_
    rintro e w1 ⟨rfl, hb1⟩
    have b0 : w1.cell? ⟨w.heap.size, 0, none⟩ = some (.int .i64 o) := (hb1.cell (by simp)).trans ((Blk.new _ _ _).cell 0)
    have b1 : w1.cell? ⟨w.heap.size, 1, none⟩ = some (.slice A l.length c) := (hb1.cell (by simp)).trans ((Blk.new _ _ _).cell 1)
    have HB1 := Lib.hid ((HA.out _).trans (hb1.mono (by simp)))
    clear hb1
    go_wp2_with fail
    refine (HF.out HV.out _ HB1.out).mono ?_
    rintro e w2 ⟨rfl, hb2⟩
    have HB2 := Lib.hid (HB1.out.trans (hb2.mono HB1.out.size))
    clear hb2 b0 b1
    go_wp2
    go_ret2
    exact retII_of HE.out.symm HZ.out.symm HB2.out
  · have HE : Hid (firstR o l loc = 0) := Lib.hid (if_neg hz)
    have hz' : (zerr o l != 0) = true := by simpa using hz
    clear hz
    generalize zerr o l = ze at *
    go_enter Try.func35, Try.ntmps35
    go_wp2_with fail
    refine (HC.out _ (HA.out _)).mono ?_
    rintro e w1 ⟨rfl, hb1⟩
    have HB1 := Lib.hid ((HA.out _).trans (hb1.mono (by simp)))
    clear hb1
    go_wp2
    go_ret2
    exact retII_of HE.out.symm rfl HB1.out


set_option maxHeartbeats 800000 in
theorem rbegin_any (hV : ZVal o l) (d : Int) (h0 : 0 ≤ d) (h1 : d ≤ 84006) : Calls Try.prog 51 #[.agg #[.int .i64 o, .slice A l.length c], .int .i64 d] w (RetI (beginV o l d) w) := by
  have _hl := hl
  have HF : Hid (∀ W, Below w.heap.size w W → Calls Try.prog 47 #[.agg #[.int .i64 o, .slice A l.length c], .int .i64 (d * 1440)] W (RetI (firstV o l (d * 1440)) W)) := Lib.hid (fun W hW => rfirst_any A c B o l W (hr.below (hW.mono hB)) (Nat.le_trans hB hW.size) hV (d * 1440))
  have HA : Hid (∀ ob, Below w.heap.size w (w.alloc ob)) := Lib.hid (fun ob => (Below.refl _ _).alloc (Nat.le_refl _) ob)
  clear hr hV
  by_cases e0 : d = 0
  · have HE : Hid (beginV o l d = 0) := Lib.hid (by unfold beginV; rw [if_pos e0])
    have t0 : (d == 0) = true := by simpa using e0
    clear e0
    go_enter Try.func51, Try.ntmps51
    go_wp2
    go_ret
    exact ⟨ret_int HE.out.symm, HA.out _⟩
  · have t0 : (d == 0) = false := by simpa using e0
    by_cases e1 : d = 84006
    · have HE : Hid (beginV o l d = 120968640) := Lib.hid (by unfold beginV; rw [if_neg e0, if_pos e1])
      have t1 : (d == 84006) = true := by simpa using e1
      clear e0 e1
      go_enter Try.func51, Try.ntmps51
      go_wp2
      go_ret
      exact ⟨ret_int HE.out.symm, HA.out _⟩
    · have HE : Hid (beginV o l d = firstV o l (d * 1440)) := Lib.hid (by unfold beginV; rw [if_neg e0, if_neg e1])
      have t1 : (d == 84006) = false := by simpa using e1
      go_enter Try.func51, Try.ntmps51
      go_wp2_with fail
      refine (HF.out _ (HA.out _)).mono ?_
      rintro e w1 ⟨rfl, hb1⟩
      have HB1 := Lib.hid ((HA.out _).trans (hb1.mono (by simp)))
      clear hb1
      go_wp2
      go_ret
      exact ⟨ret_int HE.out.symm, HB1.out⟩

set_option maxHeartbeats 1600000 in
theorem rday_any (t : Int) : Calls Try.prog 41 #[.agg #[.int .i64 o, .slice A l.length c], .int .i64 t] w (RetII (dayR o l t) (offE o l t) w) := by
  have HC : Hid (∀ W, Below w.heap.size w W → Calls Try.prog 50 #[.agg #[.int .i64 o, .slice A l.length c], .int .i64 t] W (RetII (offV o l t) (offE o l t) W)) := Lib.hid (fun W hW => roffset_any A c B o l W (hr.below (hW.mono hB)) (Nat.le_trans hB hW.size) hl t)
  have HF : Hid (ZVal o l → ∀ d, 0 ≤ d → d ≤ 84006 → ∀ W, Below w.heap.size w W → Calls Try.prog 51 #[.agg #[.int .i64 o, .slice A l.length c], .int .i64 d] W (RetI (beginV o l d) W)) := Lib.hid (fun hV d h0 h1 W hW => rbegin_any A c B o l W (hr.below (hW.mono hB)) (Nat.le_trans hB hW.size) hl hV d h0 h1)
  have HA : Hid (∀ ob, Below w.heap.size w (w.alloc ob)) := Lib.hid (fun ob => (Below.refl _ _).alloc (Nat.le_refl _) ob)
  clear hr
  by_cases he : offE o l t = 0
  · have hz : zerr o l = 0 := by
      by_cases h : zerr o l = 0
      · exact h
      · rw [(off_err (t := t) h).1] at he; exact he
    have hi : instOk t := by
      by_cases h : instOk t
      · exact h
      · rw [(off_range hz h).1] at he; omega
    have hV := zval_of hz
    have HF := Lib.hid (HF.out hV)
    have HR : Hid (dayR o l t = dayV o l t) := Lib.hid (if_pos he)
    have HE := Lib.hid he
    have hdb := dayV_bd hV t hi
    have HBI := Lib.hid (fun d h0 h1 => begin_iff hV d t hi h0 h1)
    have hG := dayG_iff hV (t + 841) t hi
    have hdt : dayV o l t ≤ t / 1440 + 2 := by
      have : ¬ t + 841 ≤ dayL (segs o l) t 0 := by
        intro h
        rcases hG.1 h with h | ⟨x, x0, x1, x2⟩
        · obtain ⟨h0, _⟩ := hi; omega
        · have := lmin_bd hV x; omega
      clear hG
      unfold dayV
      omega
    obtain ⟨t0, t1⟩ := hi
    rw [he] at HC
    clear he hz hV hG
    generalize dayV o l t = D at *
    generalize offV o l t = ov at *
    obtain ⟨mn, hmn, hmn0⟩ : ∃ mn : Int, (if 84005 < t / 1440 + 2 then (84005 : Int) else t / 1440 + 2) = mn ∧ (D ≤ mn ∧ mn ≤ 84005) := ⟨_, rfl, by split <;> omega⟩
    go_enter Try.func41, Try.ntmps41
    go_wp2_with fail
    refine (HC.out _ (HA.out _)).mono ?_
    rintro e w1 ⟨rfl, hb1⟩
    have HX := Lib.hid (box_calc (w := w) (Blk.new w 25 #[.int .i64 o, .slice A l.length c]) hb1)
    have HB1 := Lib.hid ((HA.out _).trans (hb1.mono (by simp)))
    clear hb1
    go_wp2
    clear hmn
    go_loopw [8] (fun i wr => ∃ d : Int, D ≤ d ∧ d ≤ 84005 ∧ i = .int .i64 d ∧ Below w.heap.size w wr ∧ Blk wr w.heap.size 25 #[.int .i64 o, .slice A l.length c]) (fun i _ => (intOf i - D).toNat)
    case atStart => exact ⟨mn, hmn0.1, hmn0.2, rfl, HB1.out, HX.out⟩
    case round =>
      obtain ⟨d, hd0, hd1, rfl, hbl, hbx⟩ := hrel
      have HBL := Lib.hid hbl
      have HBX := Lib.hid hbx
      have z0 := hbx.cell 0
      have z1 := hbx.cell 1
      simp at z0 z1
      have hbi := HBI.out d (by omega) (by omega)
      clear hbl hbx HX HB1
      by_cases hc : d = D
      · subst hc
        have h4 := hbi.2 (Int.le_refl _)
        have d1 : decide (t < beginV o l d) = false := by simpa using h4
        clear hbi h4
        go_wp2_with fail
        refine (HF.out d (by omega) (by omega) _ HBL.out).mono ?_
        rintro e w2 ⟨rfl, hb2⟩
        have HB2 := Lib.hid (HBL.out.trans (hb2.mono HBL.out.size))
        clear hb2
        generalize beginV o l d = bv at *
        go_wp2
        go_ret2
        exact retII_of HR.out.symm HE.out.symm HB2.out
      · have d1 : decide (t < beginV o l d) = true := by
          have : ¬ beginV o l d ≤ t := fun h => by have := hbi.1 h; omega
          simpa using this
        clear hbi
        go_wp2_with fail
        refine (HF.out d (by omega) (by omega) _ HBL.out).mono ?_
        rintro e w2 ⟨rfl, hb2⟩
        have HB2 := Lib.hid (HBL.out.trans (hb2.mono HBL.out.size))
        have HX2 := Lib.hid (box_calc HBX.out hb2)
        clear hb2
        generalize beginV o l d = bv at *
        go_wp2
        go_roundw
        case rel => exact ⟨d - 1, by omega, by omega, rfl, HB2.out, HX2.out⟩
        case measure => simp [intOf]; omega
  · have HR : Hid (dayR o l t = 0) := Lib.hid (if_neg he)
    have he' : (offE o l t != 0) = true := by simpa using he
    clear he HF
    generalize offE o l t = oe at *
    generalize offV o l t = ov at *
    go_enter Try.func41, Try.ntmps41
    go_wp2_with fail
    refine (HC.out _ (HA.out _)).mono ?_
    rintro e w1 ⟨rfl, hb1⟩
    have HB1 := Lib.hid ((HA.out _).trans (hb1.mono (by simp)))
    clear hb1
    go_wp2
    go_ret2
    exact retII_of HR.out.symm rfl HB1.out
end
end Go.Proofs.Ytagkdkkpgcolkaa

