/-
  Contracts of Least, of the program and of the reference: the least income with the exact tax.
-/
import Derived.Test.YtflbndcdnenkdaaExact29
namespace Go.Proofs.Ytflbndcdnenkdaa
open Go.RowKit
set_option linter.unusedVariables false
set_option linter.unusedSimpArgs false

def IsLeast (l : List (Int × Int)) (tax v : Int) (ok : Bool) : Prop :=
  (ok = false ∧ v = 0 ∧ exL l 1000000000000 < tax) ∨ (ok = true ∧ 0 ≤ v ∧ v ≤ 1000000000000 ∧ tax ≤ exL l v ∧ (0 < v → exL l (v - 1) < tax))
theorem exL_mono {l : List (Int × Int)} (h : Val l) {a b : Int} (h0 : 0 ≤ a) (hab : a ≤ b) : exL l a ≤ exL l b := by
  rw [exL_eq, exL_eq]
  exact (ex_mono (M := 1000000) (val_mono h) h.2.2.1 h0 (by have := h.1; omega) (by omega) (fun i hi => val_rate h i hi) hab).1
theorem exL_zero {l : List (Int × Int)} (h : Val l) : exL l 0 = 0 := by
  rw [exL_eq]
  exact ex_zero (val_mono h) (fun i hi => (val_from h i hi).1)
theorem IsLeast.unique {l : List (Int × Int)} {tax v v' : Int} {ok ok' : Bool} (h : Val l) (h1 : IsLeast l tax v ok) (h2 : IsLeast l tax v' ok') : v = v' ∧ ok = ok' := by
  rcases h1 with ⟨rfl, rfl, a⟩ | ⟨rfl, a0, a1, a2, a3⟩ <;> rcases h2 with ⟨rfl, rfl, b⟩ | ⟨rfl, b0, b1, b2, b3⟩
  · exact ⟨rfl, rfl⟩
  · have := exL_mono h b0 b1; omega
  · have := exL_mono h a0 a1; omega
  · refine ⟨?_, rfl⟩
    rcases Int.lt_trichotomy v v' with c | c | c
    · have := exL_mono h a0 (show v ≤ v' - 1 by omega)
      have := b3 (by omega)
      omega
    · exact c
    · have := exL_mono h b0 (show v' ≤ v - 1 by omega)
      have := a3 (by omega)
      omega

def endF (l : List (Int × Int)) (k : Nat) : Int := if k < l.length then fst2 l k else 1000000000000
def cumTo (l : List (Int × Int)) (k : Nat) : Int := exL l (endF l k)
theorem endF_yes {l : List (Int × Int)} {k : Nat} (h : k < l.length) : endF l k = fst2 l k := if_pos h
theorem endF_no {l : List (Int × Int)} {k : Nat} (h : ¬ k < l.length) : endF l k = 1000000000000 := if_neg h
theorem end_bd {l : List (Int × Int)} (h : Val l) (k : Nat) (hk : k < l.length) : fst2 l k ≤ endF l (k + 1) ∧ endF l (k + 1) ≤ 1000000000000 := by
  unfold endF
  have h1 := val_from h k hk
  split
  · have h2 := val_from h (k + 1) (by assumption)
    have h3 := val_step h k (by assumption)
    omega
  · omega
theorem exL_in {l : List (Int × Int)} (h : Val l) (k : Nat) (hk : k < l.length) (y : Int) (h1 : fst2 l k ≤ y) (h2 : y ≤ endF l (k + 1)) : exL l y = exL l (fst2 l k) + snd2 l k * (y - fst2 l k) := by
  have := ex_in (F := fst2 l) (R := snd2 l) (m := l.length) (val_mono h) h.2.2.1 (fun i hi => (val_from h i hi).1) k hk (y - fst2 l k).toNat (fun h' => by rw [endF_yes h'] at h2; omega)
  rw [show fst2 l k + ((y - fst2 l k).toNat : Int) = y by omega, show (((y - fst2 l k).toNat : Nat) : Int) = y - fst2 l k by omega] at this
  exact this
theorem whole_eq {l : List (Int × Int)} (h : Val l) (k : Nat) (hk : k < l.length) : snd2 l k * (endF l (k + 1) - fst2 l k) = cumTo l (k + 1) - cumTo l k := by
  have := exL_in h k hk (endF l (k + 1)) (end_bd h k hk).1 (Int.le_refl _)
  unfold cumTo
  rw [endF_yes hk]
  omega
theorem cum_bd {l : List (Int × Int)} (h : Val l) (k : Nat) (hk : k ≤ l.length) : 0 ≤ cumTo l k ∧ cumTo l k ≤ 1000000000000000000 := by
  unfold cumTo
  refine exL_bd h ?_ ?_
  · unfold endF
    split
    · exact (val_from h k (by assumption)).1
    · omega
  · unfold endF
    split
    · exact (val_from h k (by assumption)).2
    · omega
theorem cum_zero {l : List (Int × Int)} (h : Val l) : cumTo l 0 = 0 := by
  unfold cumTo
  rw [endF_yes (by have := h.1; omega), h.2.2.1]
  exact exL_zero h
theorem rate_pos {l : List (Int × Int)} (h : Val l) (k : Nat) (hk : k < l.length) {left : Int} (h1 : 0 < left) (h2 : left ≤ snd2 l k * (endF l (k + 1) - fst2 l k)) : 1 ≤ snd2 l k := by
  rcases Int.lt_or_le (snd2 l k) 1 with c | c
  · have hr := val_rate h k hk
    have e : snd2 l k = 0 := by omega
    rw [e, Int.zero_mul] at h2
    omega
  · exact c
theorem least_in {l : List (Int × Int)} (h : Val l) (k : Nat) (hk : k < l.length) {tax : Int} (h1 : 0 < tax - cumTo l k) (h2 : tax - cumTo l k ≤ snd2 l k * (endF l (k + 1) - fst2 l k)) :
    IsLeast l tax (fst2 l k + (tax - cumTo l k - 1) / snd2 l k + 1) true := by
  have hr := rate_pos h k hk h1 h2
  have hf := val_from h k hk
  have he := end_bd h k hk
  have ec : cumTo l k = exL l (fst2 l k) := by unfold cumTo; rw [endF_yes hk]
  generalize hq : (tax - cumTo l k - 1) / snd2 l k = q
  have q0 : 0 ≤ q := by rw [← hq]; exact Int.ediv_nonneg (by omega) (by omega)
  have q1 : snd2 l k * q ≤ tax - cumTo l k - 1 := by rw [← hq]; exact Int.mul_ediv_self_le (by omega)
  have q2 : tax - cumTo l k - 1 < snd2 l k * (q + 1) := by
    rw [← hq]
    have := Int.lt_mul_ediv_self_add (x := tax - cumTo l k - 1) (k := snd2 l k) (by omega)
    rw [Int.mul_add, Int.mul_one]
    exact this
  have q3 : q < endF l (k + 1) - fst2 l k := by
    rcases Int.lt_or_le q (endF l (k + 1) - fst2 l k) with c | c
    · exact c
    · have := Int.mul_le_mul_of_nonneg_left c (show 0 ≤ snd2 l k by omega)
      omega
  have x1 := exL_in h k hk (fst2 l k + q + 1) (by omega) (by omega)
  have x2 := exL_in h k hk (fst2 l k + q) (by omega) (by omega)
  rw [show fst2 l k + q + 1 - fst2 l k = q + 1 by omega] at x1
  rw [show fst2 l k + q - fst2 l k = q by omega] at x2
  refine .inr ⟨rfl, by omega, by omega, by omega, fun _ => ?_⟩
  rw [show fst2 l k + q + 1 - 1 = fst2 l k + q by omega]
  omega

def LeastPost (l : List (Int × Int)) (tax : Int) (w : World) (e : Ending) (w' : World) : Prop :=
  ∃ v ok, e = .returned (.tuple #[.int .i64 v, .bool ok]) ∧ Below w.heap.size w w' ∧ (Val l → IsLeast l tax v ok) ∧ (¬ Val l → v = 0 ∧ ok = false)

section
variable (A : Option Addr) (c B : Nat) (l : List (Int × Int)) (w : World) (hr : RdP w B A l) (hB : B ≤ w.heap.size) (hl : l.length ≤ 9223372036854775807)
include hr hB hl

set_option maxHeartbeats 1600000 in
theorem least_any (tax : Int) (ht : tax ≤ 9223372036854775807) : Calls Try.prog 28 #[.slice A l.length c, .int .i64 tax] w (LeastPost l tax w) := by
  by_cases hV : Val l
  · have HC := Lib.hid (valid_t A c B l w hr hB hl hV)
    by_cases h0 : tax ≤ 0
    · have HZ := Lib.hid (exL_zero hV)
      have HV := Lib.hid hV
      clear hr hV
      go_enter Try.func28, Try.ntmps28
      go_wp2_with fail
      refine HC.out.mono ?_
      rintro e w1 ⟨rfl, hb1⟩
      have HB1 := Lib.hid hb1
      clear hb1
      go_wp2
      go_ret2
      exact ⟨0, true, rfl, HB1.out, fun _ => .inr ⟨rfl, by omega, by omega, by rw [HZ.out]; exact h0, fun h => by omega⟩, fun h => absurd HV.out h⟩
    · obtain ⟨b, off, rfl, hb, hc1, hc2⟩ := hr.all (by have := hV.1; omega)
      have HC1 := Lib.hid hc1
      have HC2 := Lib.hid hc2
      have HV := Lib.hid hV
      have hl24 : l.length ≤ 24 := hV.2.1
      have hd0 : decide (tax ≤ 0) = false := by simpa using h0
      clear hr hc1 hc2 hV
      go_enter Try.func28, Try.ntmps28
      go_wp2_with fail
      refine HC.out.mono ?_
      rintro e w1 ⟨rfl, hb1⟩
      have HB1 := Lib.hid hb1
      clear hb1
      go_wp2
      go_loopw [6, 19] (fun t i wr => ∃ (k : Nat), k ≤ l.length ∧ i = .int .i64 k ∧ t = .int .i64 (tax - cumTo l k) ∧ 0 < tax - cumTo l k ∧ Below w.heap.size w wr) (fun _ i _ => l.length - (intOf i).toNat)
      case atStart => exact ⟨0, Nat.zero_le _, rfl, by rw [cum_zero HV.out, Int.sub_zero], by rw [cum_zero HV.out]; omega, HB1.out⟩
      case round =>
        obtain ⟨k, hk, rfl, rfl, hpos, hbl⟩ := hrel
        have HBL := Lib.hid hbl
        clear hbl
        have hsz := HBL.out.size
        have hcb := cum_bd HV.out k hk
        by_cases hlt : k < l.length
        · have e1 : wr.cell? ⟨b, off + k * 2, none⟩ = some (.int .i64 (fst2 l k)) := (HBL.out.cell (by show b < _; omega)).trans (HC1.out k hlt)
          have e2 : wr.cell? ⟨b, off + k * 2 + 1, none⟩ = some (.int .i64 (snd2 l k)) := (HBL.out.cell (by show b < _; omega)).trans (HC2.out k hlt)
          have hbs : b < wr.heap.size := by omega
          have hf := val_from HV.out k hlt
          have hrt := val_rate HV.out k hlt
          have hcb1 := cum_bd HV.out (k + 1) (by omega)
          have hwh := whole_eq HV.out k hlt
          have hwb : 0 ≤ snd2 l k * (endF l (k + 1) - fst2 l k) ∧ snd2 l k * (endF l (k + 1) - fst2 l k) ≤ 1000000000000000000 := ⟨Int.mul_nonneg hrt.1 (by have := end_bd HV.out k hlt; omega), by omega⟩
          have HWH := Lib.hid hwh
          have HIN := Lib.hid (fun h2 => least_in HV.out k hlt hpos h2)
          have HRP := Lib.hid (fun h2 => rate_pos HV.out k hlt hpos h2)
          clear hwh
          have fin : ∀ W, Below w.heap.size w W → tax - cumTo l k ≤ snd2 l k * (endF l (k + 1) - fst2 l k) → LeastPost l tax w (.returned (.tuple #[.int .i64 (fst2 l k + (tax - cumTo l k - 1) / snd2 l k + 1), .bool true])) W :=
            fun W hW h2 => ⟨_, true, rfl, hW, fun _ => HIN.out h2, fun h => absurd HV.out h⟩
          have HF := Lib.hid fin
          clear fin
          have HB2 : Hid (∀ o n, Below w.heap.size w ((wr.alloc o).drewN n)) := fun o n => below_drewN (HBL.out.alloc hsz o) n
          by_cases hk1 : k + 1 < l.length
          · have e3 : ∀ o, (wr.alloc o).cell? ⟨b, off + (k + 1) * 2, none⟩ = some (.int .i64 (fst2 l (k + 1))) := fun o => (World.cell?_alloc_lt wr o ⟨b, off + (k + 1) * 2, none⟩ hbs).trans ((HBL.out.cell (by show b < _; omega)).trans (HC1.out (k + 1) hk1))
            have hf1 := val_from HV.out (k + 1) hk1
            have hst := val_step HV.out k hk1
            rw [endF_yes hk1] at hwb HF HWH HRP
            generalize hcg : cumTo l k = C at *
            clear hcg
            by_cases h2 : tax - C ≤ snd2 l k * (fst2 l (k + 1) - fst2 l k)
            · have hrp := HRP.out h2
              have hz : (snd2 l k == 0) = false := by simp; omega
              have hq := IntWalk.tdiv_le (tax - C - 1) (snd2 l k) (by omega) hrp
              have hw0 := IntWalk.i64_in (tax - C - 1) (by omega)
              have hw1 : IntKind.i64.wrap ((tax - C - 1).tdiv (snd2 l k)) = (tax - C - 1) / snd2 l k := IntWalk.i64_quo _ _ ⟨by omega, by omega, by omega⟩
              have hw2 := IntWalk.i64_in (fst2 l k + (tax - C - 1) / snd2 l k) (by omega)
              have hw3 := IntWalk.i64_in (fst2 l k + (tax - C - 1) / snd2 l k + 1) (by omega)
              go_wp2
              go_quiet (fail)
              clear hw0 hw1 hw2 hw3
              go_wp2
              go_ret2
              exact HF.out _ (HB2.out _ _) h2
            · go_wp2
              go_roundw
              case rel => exact ⟨k + 1, by omega, by go_num, congrArg _ (by have := HWH.out; omega), by have := HWH.out; omega, HBL.out.alloc hsz _⟩
              case measure => simp [intOf]; omega
          · rw [endF_no hk1] at hwb HF HWH HRP
            generalize hcg : cumTo l k = C at *
            clear hcg
            by_cases h2 : tax - C ≤ snd2 l k * (1000000000000 - fst2 l k)
            · have hrp := HRP.out h2
              have hz : (snd2 l k == 0) = false := by simp; omega
              have hq := IntWalk.tdiv_le (tax - C - 1) (snd2 l k) (by omega) hrp
              have hw0 := IntWalk.i64_in (tax - C - 1) (by omega)
              have hw1 : IntKind.i64.wrap ((tax - C - 1).tdiv (snd2 l k)) = (tax - C - 1) / snd2 l k := IntWalk.i64_quo _ _ ⟨by omega, by omega, by omega⟩
              have hw2 := IntWalk.i64_in (fst2 l k + (tax - C - 1) / snd2 l k) (by omega)
              have hw3 := IntWalk.i64_in (fst2 l k + (tax - C - 1) / snd2 l k + 1) (by omega)
              go_wp2
              go_quiet (fail)
              clear hw0 hw1 hw2 hw3
              go_wp2
              go_ret2
              exact HF.out _ (HB2.out _ _) h2
            · go_wp2
              go_roundw
              case rel => exact ⟨k + 1, by omega, by go_num, congrArg _ (by have := HWH.out; omega), by have := HWH.out; omega, HBL.out.alloc hsz _⟩
              case measure => simp [intOf]; omega
        · have hkl : k = l.length := by omega
          subst hkl
          have HE : Hid (exL l 1000000000000 < tax) := Lib.hid (by have : cumTo l l.length = exL l 1000000000000 := by unfold cumTo; rw [endF_no (by omega)]
                                                                   omega)
          go_wp2
          go_ret2
          exact ⟨0, false, rfl, HBL.out, fun _ => .inl ⟨rfl, rfl, HE.out⟩, fun h => absurd HV.out h⟩
  · have HC := Lib.hid (valid_f A c B l w hr hB hl hV)
    have HV := Lib.hid hV
    clear hr hV
    go_enter Try.func28, Try.ntmps28
    go_wp2_with fail
    refine HC.out.mono ?_
    rintro e w1 ⟨rfl, hb1⟩
    have HB1 := Lib.hid hb1
    clear hb1
    go_wp2
    go_ret2
    exact ⟨0, false, rfl, HB1.out, fun h => absurd h HV.out, fun _ => ⟨rfl, rfl⟩⟩

set_option maxHeartbeats 1600000 in
theorem refLeast_any (tax : Int) (ht : tax ≤ 9223372036854775807) : Calls Try.prog 29 #[.slice A l.length c, .int .i64 tax] w (LeastPost l tax w) := by
  by_cases hV : Val l
  · have HC := Lib.hid (refValid_t A c B l w hr hB hl hV)
    have HV := Lib.hid hV
    have HR := Lib.hid hr
    have HX : Hid (∀ W n, Below w.heap.size w W → 0 ≤ n → n ≤ 1000000000000 → Calls Try.prog 26 #[.slice A l.length c, .int .i64 n] W (RetII (exL l n) 0 W)) := by
      intro W n hW h0 h1
      have hc := chk_ok (n := n) HV.out h0 h1
      have := refExact_any A c B l W (HR.out.below (hW.mono hB)) (Nat.le_trans hB hW.size) hl n
      rw [hc] at this
      unfold exactV at this
      rwa [if_pos hc] at this
    clear hr hV
    go_enter Try.func29, Try.ntmps29
    go_wp2_with fail
    refine HC.out.mono ?_
    rintro e w1 ⟨rfl, hb1⟩
    have HB1 := Lib.hid hb1
    clear hb1
    go_wp2_with fail
    refine (HX.out _ 1000000000000 HB1.out (by omega) (by omega)).mono ?_
    rintro e w2 ⟨rfl, hb2⟩
    have HB2 := Lib.hid (HB1.out.trans (hb2.mono HB1.out.size))
    clear hb2
    have hxb := exL_bd (n := 1000000000000) HV.out (by omega) (by omega)
    by_cases hlt : exL l 1000000000000 < tax
    · go_wp2
      go_ret2
      exact ⟨0, false, rfl, HB2.out, fun _ => .inl ⟨rfl, rfl, hlt⟩, fun h => absurd HV.out h⟩
    · have hd : decide (exL l 1000000000000 < tax) = false := by simpa using hlt
      go_wp2
      go_loopw [8, 9] (fun lo hi wr => ∃ (a b : Int), lo = .int .i64 a ∧ hi = .int .i64 b ∧ -1 ≤ a ∧ a < b ∧ b ≤ 1000000000000 ∧ tax ≤ exL l b ∧ (0 ≤ a → exL l a < tax) ∧ Below w.heap.size w wr) (fun lo hi _ => (intOf hi - intOf lo).toNat)
      case atStart => exact ⟨-1, 1000000000000, rfl, rfl, by omega, by omega, by omega, by omega, fun h => by omega, HB2.out⟩
      case round =>
        obtain ⟨a, b, rfl, rfl, ha, hab, hb, hx1, hx2, hbl⟩ := hrel
        have HBL := Lib.hid hbl
        have HX1 := Lib.hid hx1
        have HX2 := Lib.hid hx2
        clear hbl hx1 hx2
        by_cases hgo : 1 < b - a
        · go_wp2_with fail
          refine (HX.out _ ((a + b) / 2) HBL.out (by omega) (by omega)).mono ?_
          rintro e w3 ⟨rfl, hb3⟩
          have HB3 := Lib.hid (HBL.out.trans (hb3.mono HBL.out.size))
          clear hb3
          by_cases hc : tax ≤ exL l ((a + b) / 2)
          · have HC2 := Lib.hid hc
            have hdd : decide (tax ≤ exL l ((a + b) / 2)) = true := by simpa using hc
            clear hc
            go_wp2
            go_roundw
            case rel => exact ⟨a, (a + b) / 2, rfl, rfl, by omega, by omega, by omega, HC2.out, HX2.out, HB3.out⟩
            case measure => simp [intOf]; omega
          · have HC2 := Lib.hid hc
            have hdd : decide (tax ≤ exL l ((a + b) / 2)) = false := by simpa using hc
            clear hc
            go_wp2
            go_roundw
            case rel => exact ⟨(a + b) / 2, b, rfl, rfl, by omega, by omega, by omega, HX1.out, fun _ => by have := HC2.out; omega, HB3.out⟩
            case measure => simp [intOf]; omega
        · go_wp2
          go_ret2
          exact ⟨b, true, rfl, HBL.out, fun _ => .inr ⟨rfl, by omega, by omega, HX1.out, fun h => by rw [show b - 1 = a by omega]; exact HX2.out (by omega)⟩, fun h => absurd HV.out h⟩
  · have HC := Lib.hid (refValid_f A c B l w hr hB hl hV)
    have HV := Lib.hid hV
    clear hr hV
    go_enter Try.func29, Try.ntmps29
    go_wp2_with fail
    refine HC.out.mono ?_
    rintro e w1 ⟨rfl, hb1⟩
    have HB1 := Lib.hid hb1
    clear hb1
    go_wp2
    go_ret2
    exact ⟨0, false, rfl, HB1.out, fun h => absurd h HV.out, fun _ => ⟨rfl, rfl⟩⟩
end
end Go.Proofs.Ytflbndcdnenkdaa
