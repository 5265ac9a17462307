/-
  Contracts of IsOffset, IsInstant, Valid, Shift, Offset and Local of package payrollref4.
-/
import Derived.Test.YtagkdkkpgcolkaaZone
namespace Go.Proofs.Ytagkdkkpgcolkaa
open Go.RowKit
set_option linter.unusedVariables false
set_option linter.unusedSimpArgs false

set_option maxHeartbeats 400000 in
theorem rvo_t (o : Int) (w : World) (h : offOk o) : Calls Try.prog 43 #[.int .i64 o] w (RetB0 true w) := by
  obtain ⟨h1, h2⟩ := h
  have t1 : decide (-840 ≤ o) = true := by simpa using h1
  have t2 : decide (o ≤ 840) = true := by simpa using h2
  go_enter Try.func43, Try.ntmps43
  go_wp2
  go_ret
  exact retB0_of rfl
set_option maxHeartbeats 400000 in
theorem rvo_f (o : Int) (w : World) (h : ¬ offOk o) : Calls Try.prog 43 #[.int .i64 o] w (RetB0 false w) := by
  rcases bool_cases (-840 ≤ o) with t1 | t1
  · have t2 : decide (o ≤ 840) = false := by unfold offOk at h; simp at t1; simp; omega
    clear h
    go_enter Try.func43, Try.ntmps43
    go_wp2
    go_ret
    exact retB0_of rfl
  · clear h
    go_enter Try.func43, Try.ntmps43
    go_wp2
    go_ret
    exact retB0_of rfl

set_option maxHeartbeats 400000 in
theorem ri_t (o : Int) (w : World) (h : instOk o) : Calls Try.prog 44 #[.int .i64 o] w (RetB0 true w) := by
  obtain ⟨h1, h2⟩ := h
  have t1 : decide (0 ≤ o) = true := by simpa using h1
  have t2 : decide (o ≤ 120968639) = true := by simpa using h2
  go_enter Try.func44, Try.ntmps44
  go_wp2
  go_ret
  exact retB0_of rfl
set_option maxHeartbeats 400000 in
theorem ri_f (o : Int) (w : World) (h : ¬ instOk o) : Calls Try.prog 44 #[.int .i64 o] w (RetB0 false w) := by
  rcases bool_cases (0 ≤ o) with t1 | t1
  · have t2 : decide (o ≤ 120968639) = false := by unfold instOk at h; simp at t1; simp; omega
    clear h
    go_enter Try.func44, Try.ntmps44
    go_wp2
    go_ret
    exact retB0_of rfl
  · clear h
    go_enter Try.func44, Try.ntmps44
    go_wp2
    go_ret
    exact retB0_of rfl

set_option maxHeartbeats 1600000 in
theorem rvalid_any (A : Option Addr) (c B : Nat) (o : Int) (l : List (Int × Int)) (w : World) (hr : RdP w B A l) (hB : B ≤ w.heap.size) (hl : l.length ≤ 9223372036854775807) :
    Calls Try.prog 31 #[.agg #[.int .i64 o, .slice A l.length c]] w (RetI (zerr o l) w) := by
  have HR := Lib.hid hr
  clear hr
  by_cases h1 : 64 < l.length
  · have d1 : decide (64 < (l.length : Int)) = true := by simp; omega
    have HE := Lib.hid (zerr_long (o := o) h1)
    go_enter Try.func31, Try.ntmps31
    go_wp2_with fail
    go_ret
    exact ⟨ret_int HE.out.symm, (Below.refl _ _).alloc (Nat.le_refl _) _⟩
  · have d1 : decide (64 < (l.length : Int)) = false := by simp; omega
    by_cases h2 : offOk o
    · have HE := Lib.hid (zerr_in h1 h2)
      go_enter Try.func31, Try.ntmps31
      go_wp2_with fail
      refine (rvo_t o _ h2).mono ?_
      rintro e w' ⟨rfl, rfl⟩
      go_wp2
      go_loopw [3] (fun i wr => ∃ k : Nat, k ≤ l.length ∧ i = .int .i64 k ∧ zto l k = 0 ∧ Below w.heap.size w wr ∧ wr.cell? ⟨w.heap.size, 1, none⟩ = some (.slice A l.length c) ∧ w.heap.size < wr.heap.size) (fun i _ => l.length - (intOf i).toNat)
      case atStart => exact ⟨0, Nat.zero_le _, rfl, rfl, (Below.refl _ _).alloc (Nat.le_refl _) _, (Blk.new _ _ _).cell 1, by simp⟩
      case round =>
        obtain ⟨k, hk, rfl, hz, hbl, hbox, hws⟩ := hrel
        have HZ := Lib.hid hz
        have HBL := Lib.hid hbl
        clear hz hbl
        have hsz := HBL.out.size
        by_cases hlt : k < l.length
        · obtain ⟨b, off, rfl, hb, hc1, hc2⟩ := HR.out.all (by omega)
          have e1 : wr.cell? ⟨b, off + k * 2, none⟩ = some (.int .i64 (fst2 l k)) := (HBL.out.cell (by show b < _; omega)).trans (hc1 k hlt)
          have e2 : wr.cell? ⟨b, off + k * 2 + 1, none⟩ = some (.int .i64 (snd2 l k)) := (HBL.out.cell (by show b < _; omega)).trans (hc2 k hlt)
          have HBad : Hid (∀ e : Int, errAt l k = e → e ≠ 0 → zerr o l = e) := Lib.hid (fun e h1 h2 => HE.out.trans (zto_err HZ.out h1 h2 hlt))
          have HB2 : Hid (∀ n o, Below w.heap.size w ((wr.alloc o).drewN n)) := Lib.hid (fun n o => below_drewN (HBL.out.alloc hsz o) n)
          have HOK : Hid (errAt l k = 0 → zto l (k + 1) = 0) := Lib.hid (zto_ok HZ.out)
          have hbs : b < wr.heap.size := by omega
          have hbox' : ∀ o, (wr.alloc o).cell? ⟨w.heap.size, 1, none⟩ = some (.slice (some ⟨b, off, none⟩) l.length c) := fun o => (World.cell?_alloc_lt wr o ⟨w.heap.size, 1, none⟩ hws).trans hbox
          have HBX := Lib.hid hbox'
          by_cases h9 : instOk (fst2 l k)
          rotate_left
          · have hb0 : Hid (errAt l k = 2) := Lib.hid (by unfold errAt; rw [if_pos (by unfold instOk at h9; omega)])
            clear hc1 hc2 hbox'
            go_wp2_with fail
            refine (ri_f _ _ h9).mono ?_
            rintro e w' ⟨rfl, rfl⟩
            go_wp2
            go_ret
            exact ⟨ret_int (HBad.out 2 hb0.out (by omega)).symm, HB2.out 0 _⟩
          · have ⟨t1, t2⟩ : 0 ≤ fst2 l k ∧ fst2 l k ≤ 120968639 := h9
            · by_cases h3 : offOk (snd2 l k)
              · have hr2 : ¬ (fst2 l k < 0 ∨ 120968639 < fst2 l k ∨ snd2 l k < -840 ∨ 840 < snd2 l k) := by unfold offOk at h3; omega
                by_cases hk0 : 0 < k
                · obtain ⟨j, rfl⟩ : ∃ j, k = j + 1 := ⟨k - 1, by omega⟩
                  have e0 : ∀ o, (wr.alloc o).cell? ⟨b, off + j * 2, none⟩ = some (.int .i64 (fst2 l j)) := fun o => (World.cell?_alloc_lt wr o ⟨b, off + j * 2, none⟩ hbs).trans ((HBL.out.cell (by show b < _; omega)).trans (hc1 j (by omega)))
                  have hjl : j < l.length := by omega
                  have hw := IntWalk.i64_in (j : Int) (by omega)
                  rcases bool_cases (fst2 l (j + 1) ≤ fst2 l j) with t4 | t4
                  · have hb0 : Hid (errAt l (j + 1) = 1) := Lib.hid (by unfold errAt; rw [if_neg hr2, if_pos ⟨by omega, by simp at t4; simpa using t4⟩])
                    clear hc1 hc2 hr2
                    go_wp2_with fail
                    refine (ri_t _ _ h9).mono ?_
                    rintro e w' ⟨rfl, rfl⟩
                    go_wp2_with fail
                    refine (rvo_t _ _ h3).mono ?_
                    rintro e w' ⟨rfl, rfl⟩
                    go_wp2
                    go_quiet (fail)
                    clear hw
                    go_wp2
                    go_ret
                    exact ⟨ret_int (HBad.out 1 hb0.out (by omega)).symm, HB2.out _ _⟩
                  · have hb0 : Hid (errAt l (j + 1) = 0) := Lib.hid (by unfold errAt; rw [if_neg hr2, if_neg (by simp at t4; simp; omega)])
                    clear hc1 hc2 hr2
                    go_wp2_with fail
                    refine (ri_t _ _ h9).mono ?_
                    rintro e w' ⟨rfl, rfl⟩
                    go_wp2_with fail
                    refine (rvo_t _ _ h3).mono ?_
                    rintro e w' ⟨rfl, rfl⟩
                    go_wp2
                    go_quiet (fail)
                    clear hw
                    go_wp2
                    go_roundw
                    case rel => exact ⟨j + 1 + 1, by omega, by go_num, HOK.out hb0.out, HB2.out _ _, HBX.out _, by simp; omega⟩
                    case measure => simp [intOf]; omega
                · have hb0 : Hid (errAt l k = 0) := Lib.hid (by unfold errAt; rw [if_neg hr2, if_neg (by omega)])
                  have hd : decide ((0 : Int) < (k : Int)) = false := by simp; omega
                  have hd' : decide (0 < k) = false := by simp; omega
                  clear hc1 hc2 hr2
                  go_wp2_with fail
                  refine (ri_t _ _ h9).mono ?_
                  rintro e w' ⟨rfl, rfl⟩
                  go_wp2_with fail
                  refine (rvo_t _ _ h3).mono ?_
                  rintro e w' ⟨rfl, rfl⟩
                  go_wp2
                  go_quiet (fail)
                  go_wp2
                  go_roundw
                  case rel => exact ⟨k + 1, by omega, by go_num, HOK.out hb0.out, HB2.out _ _, HBX.out _, by simp; omega⟩
                  case measure => simp [intOf]; omega
              · have hb0 : Hid (errAt l k = 2) := Lib.hid (by unfold errAt; rw [if_pos (by unfold offOk at h3; omega)])
                clear hc1 hc2 hbox'
                go_wp2_with fail
                refine (ri_t _ _ h9).mono ?_
                rintro e w' ⟨rfl, rfl⟩
                go_wp2_with fail
                refine (rvo_f _ _ h3).mono ?_
                rintro e w' ⟨rfl, rfl⟩
                go_wp2
                go_ret
                exact ⟨ret_int (HBad.out 2 hb0.out (by omega)).symm, HB2.out 0 _⟩
        · have hkl : k = l.length := by omega
          subst hkl
          go_wp2
          go_ret
          exact ⟨ret_int (HE.out.trans HZ.out).symm, HBL.out⟩
    · have HE := Lib.hid (zerr_off h1 h2)
      go_enter Try.func31, Try.ntmps31
      go_wp2_with fail
      refine (rvo_f o _ h2).mono ?_
      rintro e w' ⟨rfl, rfl⟩
      go_wp2
      go_ret
      exact ⟨ret_int HE.out.symm, (Below.refl _ _).alloc (Nat.le_refl _) _⟩


section
variable (A : Option Addr) (c B : Nat) (o : Int) (l : List (Int × Int)) (w : World) (hr : RdP w B A l) (hB : B ≤ w.heap.size) (hl : l.length ≤ 9223372036854775807)
include hr hB hl
set_option maxHeartbeats 1600000 in
theorem rshift_any (t : Int) : Calls Try.prog 54 #[.agg #[.int .i64 o, .slice A l.length c], .int .i64 t] w (RetI (shTo o l t l.length) w) := by
  have HR := Lib.hid hr
  have HA : Hid (∀ ob, Below w.heap.size w (w.alloc ob)) := Lib.hid (fun ob => (Below.refl _ _).alloc (Nat.le_refl _) ob)
  clear hr
  go_enter Try.func54, Try.ntmps54
  go_wp2
  go_loop [5] (fun i => ∃ k : Nat, k ≤ l.length ∧ i = .int .i64 ((k : Int) - 1) ∧ shTo o l t l.length = shTo o l t k) (fun i => (intOf i + 1).toNat)
  case atStart => exact ⟨l.length, Nat.le_refl _, rfl, rfl⟩
  case round =>
    obtain ⟨k, hk, rfl, hs⟩ := hrel
    have HS := Lib.hid hs
    clear hs
    by_cases hk0 : 0 < k
    · obtain ⟨j, rfl⟩ : ∃ j, k = j + 1 := ⟨k - 1, by omega⟩
      obtain ⟨b, off, rfl, hbb, hc1, hc2⟩ := HR.out.all (by omega)
      have e1 : w.cell? ⟨b, off + j * 2, none⟩ = some (.int .i64 (fst2 l j)) := hc1 j (by omega)
      have e2 : w.cell? ⟨b, off + j * 2 + 1, none⟩ = some (.int .i64 (snd2 l j)) := hc2 j (by omega)
      have hbw : b < w.heap.size := by omega
      have hjl : j < l.length := by omega
      rw [show ((j + 1 : Nat) : Int) - 1 = (j : Int) by omega]
      clear hc1 hc2
      by_cases hf : fst2 l j ≤ t
      · have HS2 := Lib.hid (HS.out.trans (shTo_yes hf))
        go_wp2
        go_ret
        exact ⟨ret_int HS2.out.symm, HA.out _⟩
      · have HS2 := Lib.hid (HS.out.trans (shTo_no hf))
        go_wp2
        go_round
        case rel => exact ⟨j, by omega, rfl, HS2.out⟩
        case measure => simp [intOf]
    · have hk00 : k = 0 := by omega
      subst hk00
      go_wp2
      go_ret
      exact ⟨ret_int HS.out.symm, HA.out _⟩

set_option maxHeartbeats 1600000 in
theorem roffset_any (t : Int) : Calls Try.prog 50 #[.agg #[.int .i64 o, .slice A l.length c], .int .i64 t] w (RetII (offV o l t) (offE o l t) w) := by
  have HC : Hid (∀ W, Below w.heap.size w W → Calls Try.prog 31 #[.agg #[.int .i64 o, .slice A l.length c]] W (RetI (zerr o l) W)) := Lib.hid (fun W hW => rvalid_any A c B o l W (hr.below (hW.mono hB)) (Nat.le_trans hB hW.size) hl)
  have HSh : Hid (∀ W, Below w.heap.size w W → Calls Try.prog 54 #[.agg #[.int .i64 o, .slice A l.length c], .int .i64 t] W (RetI (shTo o l t l.length) W)) := Lib.hid (fun W hW => rshift_any A c B o l W (hr.below (hW.mono hB)) (Nat.le_trans hB hW.size) hl t)
  have HA : Hid (∀ ob, Below w.heap.size w (w.alloc ob)) := Lib.hid (fun ob => (Below.refl _ _).alloc (Nat.le_refl _) ob)
  clear hr
  by_cases hz : zerr o l = 0
  · rw [hz] at HC
    by_cases ht : instOk t
    · have HE := Lib.hid (off_ok hz ht)
      clear hz
      go_enter Try.func50, Try.ntmps50
      go_wp2_with fail
      refine (HC.out _ (HA.out _)).mono ?_
      rintro e w1 ⟨rfl, hb1⟩
      have b0 : w1.cell? ⟨w.heap.size, 0, none⟩ = some (.int .i64 o) := (hb1.cell (by simp)).trans ((Blk.new _ _ _).cell 0)
      have b1 : w1.cell? ⟨w.heap.size, 1, none⟩ = some (.slice A l.length c) := (hb1.cell (by simp)).trans ((Blk.new _ _ _).cell 1)
      have HB1 := Lib.hid ((HA.out _).trans (hb1.mono (by simp)))
      clear hb1
      go_wp2_with fail
      refine (ri_t _ _ ht).mono ?_
      rintro e w' ⟨rfl, rfl⟩
      go_wp2_with fail
      refine (HSh.out _ HB1.out).mono ?_
      rintro e w2 ⟨rfl, hb2⟩
      have HB2 := Lib.hid (HB1.out.trans (hb2.mono HB1.out.size))
      clear hb2
      go_wp2
      go_ret2
      exact retII_of HE.out.2.symm HE.out.1.symm HB2.out
    · have HE := Lib.hid (off_range hz ht)
      clear hz
      go_enter Try.func50, Try.ntmps50
      go_wp2_with fail
      refine (HC.out _ (HA.out _)).mono ?_
      rintro e w1 ⟨rfl, hb1⟩
      have HB1 := Lib.hid ((HA.out _).trans (hb1.mono (by simp)))
      clear hb1
      go_wp2_with fail
      refine (ri_f _ _ ht).mono ?_
      rintro e w' ⟨rfl, rfl⟩
      go_wp2
      go_ret2
      exact retII_of HE.out.2.symm HE.out.1.symm HB1.out
  · have HE := Lib.hid (off_err (t := t) hz)
    have hz' : (zerr o l != 0) = true := by simpa using hz
    clear hz
    generalize zerr o l = ze at *
    go_enter Try.func50, Try.ntmps50
    go_wp2_with fail
    refine (HC.out _ (HA.out _)).mono ?_
    rintro e w1 ⟨rfl, hb1⟩
    have HB1 := Lib.hid ((HA.out _).trans (hb1.mono (by simp)))
    clear hb1
    go_wp2
    go_ret2
    exact retII_of HE.out.2.symm HE.out.1.symm HB1.out

end
end Go.Proofs.Ytagkdkkpgcolkaa

