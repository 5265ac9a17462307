/-
  Contracts of validOffset, Valid, Offset and Local of package clock.
-/
import Derived.Test.YtagkdkkpgcolkaaRows
import Derived.Test.YtagkdkkpgcolkaaRet
namespace Go.Proofs.Ytagkdkkpgcolkaa
open Go.RowKit
set_option linter.unusedVariables false
set_option linter.unusedSimpArgs false

def offOk (o : Int) : Prop := -840 ≤ o ∧ o ≤ 840
/-- the error of change k -/
def errAt (l : List (Int × Int)) (k : Nat) : Int :=
  if fst2 l k < 0 ∨ 120968639 < fst2 l k ∨ snd2 l k < -840 ∨ 840 < snd2 l k then 2 else if 0 < k ∧ fst2 l k ≤ fst2 l (k - 1) then 1 else 0
def zto (l : List (Int × Int)) : Nat → Int
  | 0 => 0
  | k + 1 => if zto l k = 0 then errAt l k else zto l k
/-- the error of a zone -/
def zerr (o : Int) (l : List (Int × Int)) : Int := if 64 < l.length then 3 else if o < -840 ∨ 840 < o then 2 else zto l l.length
theorem zto_stays (l : List (Int × Int)) (k : Nat) (h : zto l k ≠ 0) : ∀ d, zto l (k + d) = zto l k
  | 0 => rfl
  | d + 1 => by
    have ih := zto_stays l k h d
    show (if zto l (k + d) = 0 then errAt l (k + d) else zto l (k + d)) = _
    rw [ih, if_neg h]
theorem zto_err {l : List (Int × Int)} {k : Nat} {e : Int} (h0 : zto l k = 0) (he : errAt l k = e) (hn : e ≠ 0) (hk : k < l.length) : zto l l.length = e := by
  have h1 : zto l (k + 1) = e := by show (if zto l k = 0 then _ else _) = _; rw [if_pos h0, he]
  have := zto_stays l (k + 1) (by rw [h1]; exact hn) (l.length - (k + 1))
  rw [show k + 1 + (l.length - (k + 1)) = l.length by omega, h1] at this
  exact this
theorem zto_ok {l : List (Int × Int)} {k : Nat} (h0 : zto l k = 0) (he : errAt l k = 0) : zto l (k + 1) = 0 := by show (if zto l k = 0 then _ else _) = _; rw [if_pos h0, he]
theorem zerr_long {o : Int} {l : List (Int × Int)} (h : 64 < l.length) : zerr o l = 3 := if_pos h
theorem zerr_off {o : Int} {l : List (Int × Int)} (h : ¬ 64 < l.length) (h2 : ¬ offOk o) : zerr o l = 2 := by unfold zerr; rw [if_neg h, if_pos (by unfold offOk at h2; omega)]
theorem zerr_in {o : Int} {l : List (Int × Int)} (h : ¬ 64 < l.length) (h2 : offOk o) : zerr o l = zto l l.length := by unfold zerr; rw [if_neg h, if_neg (by unfold offOk at h2; omega)]

set_option maxHeartbeats 400000 in
theorem vo_t (o : Int) (w : World) (h : offOk o) : Calls Try.prog 45 #[.int .i64 o] w (RetB0 true w) := by
  obtain ⟨h1, h2⟩ := h
  have t1 : decide (-840 ≤ o) = true := by simpa using h1
  have t2 : decide (o ≤ 840) = true := by simpa using h2
  go_enter Try.func45, Try.ntmps45
  go_wp2
  go_ret
  exact retB0_of rfl
set_option maxHeartbeats 400000 in
theorem vo_f (o : Int) (w : World) (h : ¬ offOk o) : Calls Try.prog 45 #[.int .i64 o] w (RetB0 false w) := by
  rcases bool_cases (-840 ≤ o) with t1 | t1
  · have t2 : decide (o ≤ 840) = false := by unfold offOk at h; simp at t1; simp; omega
    clear h
    go_enter Try.func45, Try.ntmps45
    go_wp2
    go_ret
    exact retB0_of rfl
  · clear h
    go_enter Try.func45, Try.ntmps45
    go_wp2
    go_ret
    exact retB0_of rfl

set_option maxHeartbeats 1600000 in
theorem cvalid_any (A : Option Addr) (c B : Nat) (o : Int) (l : List (Int × Int)) (w : World) (hr : RdP w B A l) (hB : B ≤ w.heap.size) (hl : l.length ≤ 9223372036854775807) :
    Calls Try.prog 32 #[.agg #[.int .i64 o, .slice A l.length c]] w (RetI (zerr o l) w) := by
  have HR := Lib.hid hr
  clear hr
  by_cases h1 : 64 < l.length
  · have d1 : decide (64 < (l.length : Int)) = true := by simp; omega
    have HE := Lib.hid (zerr_long (o := o) h1)
    go_enter Try.func32, Try.ntmps32
    go_wp2_with fail
    go_ret
    exact ⟨ret_int HE.out.symm, (Below.refl _ _).alloc (Nat.le_refl _) _⟩
  · have d1 : decide (64 < (l.length : Int)) = false := by simp; omega
    by_cases h2 : offOk o
    · have HE := Lib.hid (zerr_in h1 h2)
      go_enter Try.func32, Try.ntmps32
      go_wp2_with fail
      refine (vo_t o _ h2).mono ?_
      rintro e w' ⟨rfl, rfl⟩
      go_wp2
      go_loopw [16] (fun i wr => ∃ k : Nat, k ≤ l.length ∧ i = .int .i64 k ∧ zto l k = 0 ∧ Below w.heap.size w wr ∧ wr.cell? ⟨w.heap.size, 1, none⟩ = some (.slice A l.length c) ∧ w.heap.size < wr.heap.size) (fun i _ => l.length - (intOf i).toNat)
      case atStart => exact ⟨0, Nat.zero_le _, rfl, rfl, (Below.refl _ _).alloc (Nat.le_refl _) _, (Blk.new _ _ _).cell 1, by simp⟩
      case round =>
        obtain ⟨k, hk, rfl, hz, hbl, hbox, hws⟩ := hrel
        have HZ := Lib.hid hz
        have HBL := Lib.hid hbl
        clear hz hbl
        have hsz := HBL.out.size
        by_cases hlt : k < l.length
        · obtain ⟨b, off, rfl, hb, hc1, hc2⟩ := HR.out.all (by omega)
          have e1 : wr.cell? ⟨b, off + k * 2, none⟩ = some (.int .i64 (fst2 l k)) := (HBL.out.cell (by show b < _; omega)).trans (hc1 k hlt)
          have e2 : wr.cell? ⟨b, off + k * 2 + 1, none⟩ = some (.int .i64 (snd2 l k)) := (HBL.out.cell (by show b < _; omega)).trans (hc2 k hlt)
          have HBad : Hid (∀ e : Int, errAt l k = e → e ≠ 0 → zerr o l = e) := Lib.hid (fun e h1 h2 => HE.out.trans (zto_err HZ.out h1 h2 hlt))
          have HB2 : Hid (∀ n o, Below w.heap.size w ((wr.alloc o).drewN n)) := Lib.hid (fun n o => below_drewN (HBL.out.alloc hsz o) n)
          have HOK : Hid (errAt l k = 0 → zto l (k + 1) = 0) := Lib.hid (zto_ok HZ.out)
          have hbs : b < wr.heap.size := by omega
          have hbox' : ∀ o, (wr.alloc o).cell? ⟨w.heap.size, 1, none⟩ = some (.slice (some ⟨b, off, none⟩) l.length c) := fun o => (World.cell?_alloc_lt wr o ⟨w.heap.size, 1, none⟩ hws).trans hbox
          have HBX := Lib.hid hbox'
          rcases bool_cases (fst2 l k < 0) with t1 | t1
          · have hb0 : Hid (errAt l k = 2) := Lib.hid (by unfold errAt; rw [if_pos (by simp at t1; omega)])
            clear hc1 hc2 hbox'
            go_wp2
            go_ret
            exact ⟨ret_int (HBad.out 2 hb0.out (by omega)).symm, HB2.out 0 _⟩
          · rcases bool_cases (120968639 < fst2 l k) with t2 | t2
            · have hb0 : Hid (errAt l k = 2) := Lib.hid (by unfold errAt; rw [if_pos (by simp at t2; omega)])
              clear hc1 hc2 hbox'
              go_wp2
              go_ret
              exact ⟨ret_int (HBad.out 2 hb0.out (by omega)).symm, HB2.out 0 _⟩
            · by_cases h3 : offOk (snd2 l k)
              · have hr2 : ¬ (fst2 l k < 0 ∨ 120968639 < fst2 l k ∨ snd2 l k < -840 ∨ 840 < snd2 l k) := by unfold offOk at h3; simp at t1 t2; omega
                by_cases hk0 : 0 < k
                · obtain ⟨j, rfl⟩ : ∃ j, k = j + 1 := ⟨k - 1, by omega⟩
                  have e0 : ∀ o, (wr.alloc o).cell? ⟨b, off + j * 2, none⟩ = some (.int .i64 (fst2 l j)) := fun o => (World.cell?_alloc_lt wr o ⟨b, off + j * 2, none⟩ hbs).trans ((HBL.out.cell (by show b < _; omega)).trans (hc1 j (by omega)))
                  have hjl : j < l.length := by omega
                  have hw := IntWalk.i64_in (j : Int) (by omega)
                  rcases bool_cases (fst2 l (j + 1) ≤ fst2 l j) with t4 | t4
                  · have hb0 : Hid (errAt l (j + 1) = 1) := Lib.hid (by unfold errAt; rw [if_neg hr2, if_pos ⟨by omega, by simp at t4; simpa using t4⟩])
                    clear hc1 hc2 hr2
                    go_wp2_with fail
                    refine (vo_t _ _ h3).mono ?_
                    rintro e w' ⟨rfl, rfl⟩
                    go_wp2
                    go_quiet (fail)
                    clear hw
                    go_wp2
                    go_ret
                    exact ⟨ret_int (HBad.out 1 hb0.out (by omega)).symm, HB2.out _ _⟩
                  · have hb0 : Hid (errAt l (j + 1) = 0) := Lib.hid (by unfold errAt; rw [if_neg hr2, if_neg (by simp at t4; simp; omega)])
                    clear hc1 hc2 hr2
                    go_wp2_with fail
                    refine (vo_t _ _ h3).mono ?_
                    rintro e w' ⟨rfl, rfl⟩
                    go_wp2
                    go_quiet (fail)
                    clear hw
                    go_wp2
                    go_roundw
                    case rel => exact ⟨j + 1 + 1, by omega, by go_num, HOK.out hb0.out, HB2.out _ _, HBX.out _, by simp; omega⟩
                    case measure => simp [intOf]; omega
                · have hb0 : Hid (errAt l k = 0) := Lib.hid (by unfold errAt; rw [if_neg hr2, if_neg (by omega)])
                  have hd : decide ((0 : Int) < (k : Int)) = false := by simp; omega
                  have hd' : decide (0 < k) = false := by simp; omega
                  clear hc1 hc2 hr2
                  go_wp2_with fail
                  refine (vo_t _ _ h3).mono ?_
                  rintro e w' ⟨rfl, rfl⟩
                  go_wp2
                  go_quiet (fail)
                  go_wp2
                  go_roundw
                  case rel => exact ⟨k + 1, by omega, by go_num, HOK.out hb0.out, HB2.out _ _, HBX.out _, by simp; omega⟩
                  case measure => simp [intOf]; omega
              · have hb0 : Hid (errAt l k = 2) := Lib.hid (by unfold errAt; rw [if_pos (by unfold offOk at h3; omega)])
                clear hc1 hc2 hbox'
                go_wp2_with fail
                refine (vo_f _ _ h3).mono ?_
                rintro e w' ⟨rfl, rfl⟩
                go_wp2
                go_ret
                exact ⟨ret_int (HBad.out 2 hb0.out (by omega)).symm, HB2.out 0 _⟩
        · have hkl : k = l.length := by omega
          subst hkl
          go_wp2
          go_ret
          exact ⟨ret_int (HE.out.trans HZ.out).symm, HBL.out⟩
    · have HE := Lib.hid (zerr_off h1 h2)
      go_enter Try.func32, Try.ntmps32
      go_wp2_with fail
      refine (vo_f o _ h2).mono ?_
      rintro e w' ⟨rfl, rfl⟩
      go_wp2
      go_ret
      exact ⟨ret_int HE.out.symm, (Below.refl _ _).alloc (Nat.le_refl _) _⟩

/-- the offset at an instant, as the first k changes say -/
def shTo (o : Int) (l : List (Int × Int)) (t : Int) : Nat → Int
  | 0 => o
  | k + 1 => if fst2 l k ≤ t then snd2 l k else shTo o l t k
theorem shTo_yes {o : Int} {l : List (Int × Int)} {t : Int} {k : Nat} (h : fst2 l k ≤ t) : shTo o l t (k + 1) = snd2 l k := if_pos h
theorem shTo_no {o : Int} {l : List (Int × Int)} {t : Int} {k : Nat} (h : ¬ fst2 l k ≤ t) : shTo o l t (k + 1) = shTo o l t k := if_neg h
def instOk (t : Int) : Prop := 0 ≤ t ∧ t ≤ 120968639
noncomputable def offE (o : Int) (l : List (Int × Int)) (t : Int) : Int := if zerr o l = 0 then @ite _ (instOk t) (Classical.propDecidable _) 0 2 else zerr o l
noncomputable def offV (o : Int) (l : List (Int × Int)) (t : Int) : Int := if offE o l t = 0 then shTo o l t l.length else 0
theorem off_err {o : Int} {l : List (Int × Int)} {t : Int} (h : zerr o l ≠ 0) : offE o l t = zerr o l ∧ offV o l t = 0 := by
  have e : offE o l t = zerr o l := if_neg h
  exact ⟨e, by unfold offV; rw [e, if_neg h]⟩
theorem off_range {o : Int} {l : List (Int × Int)} {t : Int} (h : zerr o l = 0) (h2 : ¬ instOk t) : offE o l t = 2 ∧ offV o l t = 0 := by
  have e : offE o l t = 2 := by unfold offE; rw [if_pos h, if_neg h2]
  exact ⟨e, by unfold offV; rw [e, if_neg (by omega)]⟩
theorem off_ok {o : Int} {l : List (Int × Int)} {t : Int} (h : zerr o l = 0) (h2 : instOk t) : offE o l t = 0 ∧ offV o l t = shTo o l t l.length := by
  have e : offE o l t = 0 := by unfold offE; rw [if_pos h, if_pos h2]
  exact ⟨e, by unfold offV; rw [e, if_pos rfl]⟩

/-- valid zones -/
def ZVal (o : Int) (l : List (Int × Int)) : Prop := l.length ≤ 64 ∧ offOk o ∧ (∀ i, i < l.length → 0 ≤ fst2 l i ∧ fst2 l i ≤ 120968639 ∧ offOk (snd2 l i)) ∧ ∀ i, i + 1 < l.length → fst2 l i < fst2 l (i + 1)
theorem zto_zero {l : List (Int × Int)} : ∀ k, zto l k = 0 → ∀ i, i < k → errAt l i = 0
  | 0, _, i, hi => by omega
  | k + 1, h, i, hi => by
    have h' : (if zto l k = 0 then errAt l k else zto l k) = 0 := h
    by_cases hz : zto l k = 0
    · rw [if_pos hz] at h'
      by_cases e : i = k
      · subst e; exact h'
      · exact zto_zero k hz i (by omega)
    · rw [if_neg hz] at h'; exact absurd h' hz
theorem zval_of {o : Int} {l : List (Int × Int)} (h : zerr o l = 0) : ZVal o l := by
  by_cases h1 : 64 < l.length
  · rw [zerr_long h1] at h; omega
  · by_cases h2 : offOk o
    · rw [zerr_in h1 h2] at h
      have hz := zto_zero _ h
      refine ⟨by omega, h2, fun i hi => ?_, fun i hi => ?_⟩
      · have := hz i hi
        unfold errAt at this
        split at this
        · omega
        · unfold offOk; omega
      · have := hz (i + 1) hi
        unfold errAt at this
        split at this
        · omega
        · split at this
          · omega
          · simp only [Nat.add_sub_cancel] at *
            omega
    · rw [zerr_off h1 h2] at h; omega
theorem zerr_of {o : Int} {l : List (Int × Int)} (h : ZVal o l) : zerr o l = 0 := by
  obtain ⟨h1, h2, h3, h4⟩ := h
  rw [zerr_in (by omega) h2]
  have : ∀ k, k ≤ l.length → zto l k = 0 := by
    intro k
    induction k with
    | zero => intro _; rfl
    | succ k ih =>
      intro hk
      refine zto_ok (ih (by omega)) ?_
      have a := h3 k (by omega)
      unfold offOk at a
      unfold errAt
      rw [if_neg (by omega), if_neg]
      rintro ⟨hp, hle⟩
      have := h4 (k - 1) (by omega)
      rw [show k - 1 + 1 = k by omega] at this
      omega
  exact this _ (Nat.le_refl _)
theorem sh_bd {o : Int} {l : List (Int × Int)} (h : ZVal o l) (t : Int) : ∀ k, k ≤ l.length → -840 ≤ shTo o l t k ∧ shTo o l t k ≤ 840
  | 0, _ => h.2.1
  | k + 1, hk => by
    have ih := sh_bd h t k (by omega)
    show -840 ≤ (if fst2 l k ≤ t then snd2 l k else shTo o l t k) ∧ (if fst2 l k ≤ t then snd2 l k else shTo o l t k) ≤ 840
    have := (h.2.2.1 k (by omega)).2.2
    unfold offOk at this
    split <;> omega

section
variable (A : Option Addr) (c B : Nat) (o : Int) (l : List (Int × Int)) (w : World) (hr : RdP w B A l) (hB : B ≤ w.heap.size) (hl : l.length ≤ 9223372036854775807)
include hr hB hl
noncomputable def locV (o : Int) (l : List (Int × Int)) (t : Int) : Int := if offE o l t = 0 then t + shTo o l t l.length else 0
end
end Go.Proofs.Ytagkdkkpgcolkaa

