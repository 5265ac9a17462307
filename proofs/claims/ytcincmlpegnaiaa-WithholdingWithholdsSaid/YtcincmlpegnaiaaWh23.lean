/-
  Chapter 30: Lookup of both packages.
-/
import Derived.Test.YtcincmlpegnaiaaWh7
namespace Go.Proofs.Ytcincmlpegnaiaa
open Go.RowKit
set_option linter.unusedVariables false
set_option linter.unusedSimpArgs false

abbrev amtP (inc : Int) : Prop := 0 ≤ inc ∧ inc ≤ 1000000000
def lkTo (l : List (Int × Int)) (inc : Int) : Nat → Int
  | 0 => 0
  | k + 1 => if fst2 l k ≤ inc then snd2 l k else lkTo l inc k
noncomputable def lkV (l : List (Int × Int)) (inc : Int) : Int := okIf (tblB l) (amtP inc) (lkTo l inc l.length)
noncomputable def lkE (l : List (Int × Int)) (inc : Int) : Int := erIf (tblB l) (amtP inc) 2
set_option maxHeartbeats 1600000 in
theorem lookup_any (A : Option Addr) (c B : Nat) (l : List (Int × Int)) (w : World) (hr : RdP w B A l) (hB : B ≤ w.heap.size) (hl : l.length ≤ 9223372036854775807) (inc : Int) :
    Calls Try.prog 43 #[.slice A l.length c, .int .i64 inc] w (RetII (lkV l inc) (lkE l inc) w) := by
  have HT := Lib.hid (isTable_any A c B l w hr hB hl)
  have HA : Hid (∀ W, Calls Try.prog 41 #[.int .i64 inc] W (RetQ (amtB inc) W)) := Lib.hid (fun W => isAmount_any inc W)
  have HB1 : Hid (tblB l = false → lkV l inc = 0 ∧ lkE l inc = 1) := Lib.hid (fun h => if_bad h)
  have HB2 : Hid (tblB l = true → ¬ amtP inc → lkV l inc = 0 ∧ lkE l inc = 2) := Lib.hid (fun h hp => if_range h hp)
  have HB3 : Hid (tblB l = true → amtP inc → lkV l inc = lkTo l inc l.length ∧ lkE l inc = 0) := Lib.hid (fun h hp => if_ok h hp)
  have ha : amtB inc = true ↔ amtP inc := amt_iff
  have HR := Lib.hid hr
  clear hr
  generalize tblB l = tb at *
  cases tb
  · have HN := Lib.hid (HB1.out rfl)
    clear HB1 HB2 HB3 ha
    go_enter Try.func43, Try.ntmps43
    go_wp2_with fail
    refine HT.out.mono ?_
    rintro e w1 ⟨rfl, hb⟩
    have HB := Lib.hid hb
    clear hb
    go_wp2
    go_ret2
    exact retII_of HN.out.1.symm HN.out.2.symm HB.out
  · generalize amtB inc = ab at *
    cases ab
    · have HN := Lib.hid (HB2.out rfl (fun h => by have := ha.2 h; cases this))
      clear HB1 HB2 HB3 ha
      go_enter Try.func43, Try.ntmps43
      go_wp2_with fail
      refine HT.out.mono ?_
      rintro e w1 ⟨rfl, hb⟩
      have HB := Lib.hid hb
      clear hb
      go_wp2_with fail
      refine (HA.out _).mono ?_
      rintro e wc ⟨rfl, rfl⟩
      go_wp2
      go_ret2
      exact retII_of HN.out.1.symm HN.out.2.symm HB.out
    · have HN := Lib.hid (HB3.out rfl (ha.1 rfl))
      clear HB1 HB2 HB3 ha
      go_enter Try.func43, Try.ntmps43
      go_wp2_with fail
      refine HT.out.mono ?_
      rintro e w1 ⟨rfl, hb⟩
      have HB := Lib.hid hb
      clear hb
      go_wp2_with fail
      refine (HA.out _).mono ?_
      rintro e wc ⟨rfl, rfl⟩
      go_wp2
      go_loopw [6, 8, 17] (fun v _ i wr => ∃ k : Nat, k ≤ l.length ∧ i = .int .i64 k ∧ v = .int .i64 (lkTo l inc k) ∧ Below w.heap.size w wr) (fun _ _ i _ => l.length - (intOf i).toNat)
      case atStart => exact ⟨0, Nat.zero_le _, rfl, rfl, HB.out⟩
      case round =>
        obtain ⟨k, hk, rfl, rfl, hbl⟩ := hrel
        have HBL := Lib.hid hbl
        have hsz := hbl.size
        clear hbl
        by_cases hlt : k < l.length
        · obtain ⟨b, off, rfl, hb, hc1, hc2⟩ := HR.out.all (by omega)
          have e1 : wr.cell? ⟨b, off + k * 2, none⟩ = some (.int .i64 (fst2 l k)) := (HBL.out.cell (by show b < _; omega)).trans (hc1 k hlt)
          have e2 : wr.cell? ⟨b, off + k * 2 + 1, none⟩ = some (.int .i64 (snd2 l k)) := (HBL.out.cell (by show b < _; omega)).trans (hc2 k hlt)
          clear hc1 hc2
          have HY : Hid (fst2 l k ≤ inc → lkTo l inc (k + 1) = snd2 l k) := Lib.hid (fun h => by rw [lkTo, if_pos h])
          have HNO : Hid (¬ fst2 l k ≤ inc → lkTo l inc (k + 1) = lkTo l inc k) := Lib.hid (fun h => by rw [lkTo, if_neg h])
          rcases bool_cases (fst2 l k ≤ inc) with t1 | t1
          · have HN' := Lib.hid (HY.out (by simpa using t1))
            clear HY HNO
            go_wp2
            go_roundw
            case rel => exact ⟨k + 1, by omega, by go_num, by rw [HN'.out], (HBL.out.alloc hsz _)⟩
            case measure => simp [intOf]; omega
          · have HN' := Lib.hid (HNO.out (by simpa using t1))
            clear HY HNO
            go_wp2
            go_roundw
            case rel => exact ⟨k + 1, by omega, by go_num, by rw [HN'.out], (HBL.out.alloc hsz _)⟩
            case measure => simp [intOf]; omega
        · obtain rfl : k = l.length := by omega
          go_wp2
          go_ret2
          exact retII_of HN.out.1.symm HN.out.2.symm HBL.out
set_option maxHeartbeats 1600000 in
theorem rlookup_any (A : Option Addr) (c B : Nat) (l : List (Int × Int)) (w : World) (hr : RdP w B A l) (hB : B ≤ w.heap.size) (hl : l.length ≤ 9223372036854775807) (inc : Int) :
    Calls Try.prog 46 #[.slice A l.length c, .int .i64 inc] w (RetII (lkV l inc) (lkE l inc) w) := by
  have HT := Lib.hid (table_any A c B l w hr hB hl)
  have HA : Hid (∀ W, Calls Try.prog 45 #[.int .i64 inc, .int .i64 1000000000] W (RetQ (amtB inc) W)) := Lib.hid (fun W => in_any inc 1000000000 W)
  have HB1 : Hid (tblB l = false → lkV l inc = 0 ∧ lkE l inc = 1) := Lib.hid (fun h => if_bad h)
  have HB2 : Hid (tblB l = true → ¬ amtP inc → lkV l inc = 0 ∧ lkE l inc = 2) := Lib.hid (fun h hp => if_range h hp)
  have HB3 : Hid (tblB l = true → amtP inc → lkV l inc = lkTo l inc l.length ∧ lkE l inc = 0) := Lib.hid (fun h hp => if_ok h hp)
  have ha : amtB inc = true ↔ amtP inc := amt_iff
  have HR := Lib.hid hr
  clear hr
  generalize tblB l = tb at *
  cases tb
  · have HN := Lib.hid (HB1.out rfl)
    clear HB1 HB2 HB3 ha
    go_enter Try.func46, Try.ntmps46
    go_wp2_with fail
    refine HT.out.mono ?_
    rintro e w1 ⟨rfl, hb⟩
    have HB := Lib.hid hb
    clear hb
    go_wp2
    go_ret2
    exact retII_of HN.out.1.symm HN.out.2.symm HB.out
  · generalize amtB inc = ab at *
    cases ab
    · have HN := Lib.hid (HB2.out rfl (fun h => by have := ha.2 h; cases this))
      clear HB1 HB2 HB3 ha
      go_enter Try.func46, Try.ntmps46
      go_wp2_with fail
      refine HT.out.mono ?_
      rintro e w1 ⟨rfl, hb⟩
      have HB := Lib.hid hb
      clear hb
      go_wp2_with fail
      refine (HA.out _).mono ?_
      rintro e wc ⟨rfl, rfl⟩
      go_wp2
      go_ret2
      exact retII_of HN.out.1.symm HN.out.2.symm HB.out
    · have HN := Lib.hid (HB3.out rfl (ha.1 rfl))
      clear HB1 HB2 HB3 ha
      go_enter Try.func46, Try.ntmps46
      go_wp2_with fail
      refine HT.out.mono ?_
      rintro e w1 ⟨rfl, hb⟩
      have HB := Lib.hid hb
      clear hb
      go_wp2_with fail
      refine (HA.out _).mono ?_
      rintro e wc ⟨rfl, rfl⟩
      go_wp2
      go_loopw [6, 7] (fun v i wr => ∃ k : Nat, k ≤ l.length ∧ i = .int .i64 k ∧ v = .int .i64 (lkTo l inc k) ∧ Below w.heap.size w wr) (fun _ i _ => l.length - (intOf i).toNat)
      case atStart => exact ⟨0, Nat.zero_le _, rfl, rfl, HB.out⟩
      case round =>
        obtain ⟨k, hk, rfl, rfl, hbl⟩ := hrel
        have HBL := Lib.hid hbl
        have hsz := hbl.size
        clear hbl
        by_cases hlt : k < l.length
        · obtain ⟨b, off, rfl, hb, hc1, hc2⟩ := HR.out.all (by omega)
          have e1 : wr.cell? ⟨b, off + k * 2, none⟩ = some (.int .i64 (fst2 l k)) := (HBL.out.cell (by show b < _; omega)).trans (hc1 k hlt)
          have e2 : wr.cell? ⟨b, off + k * 2 + 1, none⟩ = some (.int .i64 (snd2 l k)) := (HBL.out.cell (by show b < _; omega)).trans (hc2 k hlt)
          clear hc1 hc2
          have HY : Hid (fst2 l k ≤ inc → lkTo l inc (k + 1) = snd2 l k) := Lib.hid (fun h => by rw [lkTo, if_pos h])
          have HNO : Hid (¬ fst2 l k ≤ inc → lkTo l inc (k + 1) = lkTo l inc k) := Lib.hid (fun h => by rw [lkTo, if_neg h])
          rcases bool_cases (fst2 l k ≤ inc) with t1 | t1
          · have HN' := Lib.hid (HY.out (by simpa using t1))
            clear HY HNO
            go_wp2
            go_roundw
            case rel => exact ⟨k + 1, by omega, by go_num, by rw [HN'.out], HBL.out⟩
            case measure => simp [intOf]; omega
          · have HN' := Lib.hid (HNO.out (by simpa using t1))
            clear HY HNO
            go_wp2
            go_roundw
            case rel => exact ⟨k + 1, by omega, by go_num, by rw [HN'.out], HBL.out⟩
            case measure => simp [intOf]; omega
        · obtain rfl : k = l.length := by omega
          go_wp2
          go_ret2
          exact retII_of HN.out.1.symm HN.out.2.symm HBL.out

end Go.Proofs.Ytcincmlpegnaiaa
