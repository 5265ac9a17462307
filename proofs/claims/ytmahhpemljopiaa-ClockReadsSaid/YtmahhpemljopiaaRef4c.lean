/-
  Contracts of Instants, first, First, begin, Begin and Day of package payrollref4.
-/
import Derived.Test.YtmahhpemljopiaaRef4b
namespace Go.Proofs.Ytmahhpemljopiaa
open Go.RowKit
set_option linter.unusedVariables false
set_option linter.unusedSimpArgs false

/-- a zone's variable stays while only new blocks come -/
theorem box_calc {w W W' : World} {o : Int} {A : Option Addr} {n c : Nat} {t : TypeId} (h : Blk W w.heap.size t #[.int .i64 o, .slice A n c]) (hb : Below W.heap.size W W') : Blk W' w.heap.size t #[.int .i64 o, .slice A n c] := h.below hb h.lt
/-- behind k parts -/
def PastK (o : Int) (l : List (Int × Int)) (loc : Int) (k : Nat) : Prop := (k ≤ l.length → Past o l loc k) ∧ (l.length < k → firstV o l loc = 120968640)
theorem pastK_next {o : Int} {l : List (Int × Int)} {loc : Int} {k : Nat} (hV : ZVal o l) (h : PastK o l loc k) (hk : k ≤ l.length) (hc : sLast l k < sFrom l k ∨ sLast l k + sOff o l k < loc) : PastK o l loc (k + 1) := by
  by_cases hlt : k < l.length
  · exact ⟨fun _ => past_next (h.1 hk) hlt hc, fun h => by omega⟩
  · obtain rfl : k = l.length := by omega
    exact ⟨fun h => by omega, fun _ => past_end hV (h.1 hk) hc⟩

section
variable (A : Option Addr) (c B : Nat) (o : Int) (l : List (Int × Int)) (w : World) (hr : RdP w B A l) (hB : B ≤ w.heap.size)
include hr hB
set_option maxHeartbeats 1600000 in
theorem rfirst_any (hV : ZVal o l) (loc : Int) : Calls Try.prog 39 #[.agg #[.int .i64 o, .slice A l.length c], .int .i64 loc] w (RetI (firstV o l loc) w) := by
  have HS : Hid (∀ (k : Nat) W, k ≤ l.length → Below w.heap.size w W → Calls Try.prog 37 #[.agg #[.int .i64 o, .slice A l.length c], .int .i64 (k : Int)] W (RetIII (sFrom l k) (sLast l k) (sOff o l k) W)) := Lib.hid (fun k W hk hW => segment_any A c B o l W (hr.below (hW.mono hB)) (Nat.le_trans hB hW.size) hV k hk)
  have HV := Lib.hid hV
  have h64 := hV.1
  clear hr hV
  go_enter Try.func39, Try.ntmps39
  go_wp2
  go_loopw [5, 6, 7, 8] (fun i _ _ _ wr => ∃ k : Nat, k ≤ l.length + 1 ∧ i = .int .i64 k ∧ PastK o l loc k ∧ Below w.heap.size w wr ∧ Blk wr w.heap.size 27 #[.int .i64 o, .slice A l.length c]) (fun i _ _ _ _ => l.length + 1 - (intOf i).toNat)
  case atStart => exact ⟨0, Nat.zero_le _, rfl, ⟨fun _ => past_zero o l loc, fun h => by omega⟩, (Below.refl _ _).alloc (Nat.le_refl _) _, Blk.new _ _ _⟩
  case round =>
    obtain ⟨k, hk, rfl, hp, hbl, hbx⟩ := hrel
    have HP := Lib.hid hp
    have HBL := Lib.hid hbl
    have HBX := Lib.hid hbx
    have z0 := hbx.cell 0
    have z1 := hbx.cell 1
    simp at z0 z1
    clear hp hbl hbx
    by_cases hle : k ≤ l.length
    · have f1 := sFrom_bd HV.out k hle
      have f2 := sLast_bd HV.out k
      have f3 := sOff_bd HV.out k hle
      go_wp2_with fail
      refine (HS.out k _ hle HBL.out).mono ?_
      rintro e w1 ⟨rfl, hb⟩
      have HB1 := Lib.hid (HBL.out.trans (hb.mono HBL.out.size))
      have HX1 := Lib.hid (box_calc HBX.out hb)
      clear hb z0 z1
      have HN : Hid (sLast l k < sFrom l k ∨ sLast l k + sOff o l k < loc → PastK o l loc (k + 1)) := Lib.hid (pastK_next HV.out HP.out hle)
      have HF : Hid (sFrom l k ≤ sLast l k → loc ≤ sLast l k + sOff o l k → firstV o l loc = max (sFrom l k) (loc - sOff o l k)) := Lib.hid (past_found HV.out (HP.out.1 hle) hle)
      generalize sFrom l k = a at *
      generalize sLast l k = b at *
      generalize sOff o l k = s at *
      by_cases h1 : b < a
      · have d1 : decide (b < a) = true := by simpa using h1
        have hn := Lib.hid (HN.out (.inl h1))
        clear h1
        go_wp2
        go_roundw
        case rel => exact ⟨k + 1, by omega, by go_num, hn.out, HB1.out, HX1.out⟩
        case measure => simp [intOf]; omega
      · have d1 : decide (b < a) = false := by simpa using h1
        by_cases h2 : b + s < loc
        · have d2 : decide (b + s < loc) = true := by simpa using h2
          have hn := Lib.hid (HN.out (.inr h2))
          clear h1
          go_wp2
          go_roundw
          case rel => exact ⟨k + 1, by omega, by go_num, hn.out, HB1.out, HX1.out⟩
          case measure => simp [intOf]; omega
        · have d2 : decide (b + s < loc) = false := by simpa using h2
          have hf := Lib.hid (HF.out (by omega) (by omega))
          by_cases h3 : loc ≤ a + s
          · have d3 : decide (loc ≤ a + s) = true := by simpa using h3
            go_wp2
            go_ret
            exact ⟨ret_int (by rw [hf.out]; omega), HB1.out⟩
          · have d3 : decide (loc ≤ a + s) = false := by simpa using h3
            go_wp2
            go_ret
            exact ⟨ret_int (by rw [hf.out]; omega), HB1.out⟩
    · have hf := Lib.hid (HP.out.2 (by omega))
      go_wp2
      go_ret
      exact ⟨ret_int hf.out.symm, HBL.out⟩

set_option maxHeartbeats 1600000 in
theorem rinstants_any (hl : l.length ≤ 9223372036854775807) (loc : Int) : Calls Try.prog 30 #[.agg #[.int .i64 o, .slice A l.length c], .int .i64 loc] w (InstPost o l loc w) := by
  have HC : Hid (∀ W, Below w.heap.size w W → Calls Try.prog 31 #[.agg #[.int .i64 o, .slice A l.length c]] W (RetI (zerr o l) W)) := Lib.hid (fun W hW => rvalid_any A c B o l W (hr.below (hW.mono hB)) (Nat.le_trans hB hW.size) hl)
  have HS : Hid (ZVal o l → ∀ (k : Nat) W, k ≤ l.length → Below w.heap.size w W → Calls Try.prog 37 #[.agg #[.int .i64 o, .slice A l.length c], .int .i64 (k : Int)] W (RetIII (sFrom l k) (sLast l k) (sOff o l k) W)) := Lib.hid (fun hV k W hk hW => segment_any A c B o l W (hr.below (hW.mono hB)) (Nat.le_trans hB hW.size) hV k hk)
  have HA : Hid (∀ ob, Below w.heap.size w (w.alloc ob)) := Lib.hid (fun ob => (Below.refl _ _).alloc (Nat.le_refl _) ob)
  clear hr
  by_cases hz : zerr o l = 0
  · have hV := zval_of hz
    have HZ := Lib.hid hz
    have HV := Lib.hid hV
    have HI := Lib.hid (rInst_all hV loc)
    have h64 := hV.1
    have HS := Lib.hid (HS.out hV)
    rw [hz] at HC
    obtain ⟨i0, hi, hz0, hz1, hz2⟩ := info_parts infoInt
    clear hz hV
    go_enter Try.func30, Try.ntmps30
    go_wp2_with fail
    refine (HC.out _ (HA.out _)).mono ?_
    rintro e w1 ⟨rfl, hb1⟩
    have HX := Lib.hid (box_calc (w := w) (Blk.new w 27 #[.int .i64 o, .slice A l.length c]) hb1)
    have HB1 := Lib.hid ((HA.out _).trans (hb1.mono (by simp)))
    clear hb1
    have hbase : w.heap.size + 1 ≤ w1.heap.size := HX.out.lt
    go_wp2
    go_loopw [7, 8, 9, 10, 11] (fun v i _ _ _ wr => ∃ (k : Nat) (A1 : Option Addr) (c1 : Nat), k ≤ l.length + 1 ∧ i = .int .i64 k ∧ v = .slice A1 (rInst o l loc k).length c1 ∧ OwnI wr (w.heap.size + 1) A1 c1 (rInst o l loc k) ∧ Below w.heap.size w wr ∧ Blk wr w.heap.size 27 #[.int .i64 o, .slice A l.length c]) (fun _ i _ _ _ _ => l.length + 1 - (intOf i).toNat)
    case atStart => exact ⟨0, none, 0, Nat.zero_le _, rfl, rfl, World.ownsRow_nil _ _ _ _, HB1.out, HX.out⟩
    case round =>
      obtain ⟨k, A1, c1, hk, rfl, rfl, hown, hbl, hbx⟩ := hrel
      have HOW := Lib.hid hown
      have HBL := Lib.hid hbl
      have HBX := Lib.hid hbx
      have hsz := hbx.lt
      have hil := rInst_len o l loc k
      have z0 := hbx.cell 0
      have z1 := hbx.cell 1
      simp at z0 z1
      clear hown hbl hbx HX HB1 hbase
      by_cases hle : k ≤ l.length
      · have f1 := sFrom_bd HV.out k hle
        have f2 := sLast_bd HV.out k
        have f3 := sOff_bd HV.out k hle
        go_wp2_with fail
        refine (HS.out k _ hle HBL.out).mono ?_
        rintro e w2 ⟨rfl, hb⟩
        have HB1 := Lib.hid (HBL.out.trans (hb.mono HBL.out.size))
        have HX1 := Lib.hid (box_calc HBX.out hb)
        have HO1 : Hid (OwnI w2 (w.heap.size + 1) A1 c1 (rInst o l loc k)) := Lib.hid (World.ownsRow.kept HOW.out (Only.of_below hb wr.heap.size) (.inr (fun e => by have := (World.ownsRow.lt HOW.out _ e).2; omega)))
        have hsz2 := HX1.out.lt
        clear hb z0 z1 HOW HBL HBX hsz
        by_cases hyes : sFrom l k + sOff o l k ≤ loc ∧ loc ≤ sLast l k + sOff o l k
        · have HN := Lib.hid (rInst_yes hyes)
          have d3 : decide (sFrom l k + sOff o l k ≤ loc) = true := by simpa using hyes.1
          have d4 : decide (loc ≤ sLast l k + sOff o l k) = true := by simpa using hyes.2
          generalize sFrom l k = a at *
          generalize sLast l k = b at *
          generalize sOff o l k = s at *
          go_wp2_with (at_builtin; go_must (refine wpList_append_sk _ rfl _ _ 22 rfl (w.heap.size + 1) 3 i0 _ 1 8 Try.underlying22 hi hz0 hz1 hz2 rfl (by decide) A1 c1 _ ((rInst o l loc k).map (Value.int .i64)) rfl (by exact HO1.out.alloc _) ⟨_, 0, none⟩ 1 1 [.int .i64 (loc - s)] rfl rfl ?c1 ?c2 ?c3 ?c4 ?c5 ?_))
          case c1 => exact cells_at _ _ [.int .i64 (loc - s)] _ (by simp)
          case c2 => exact ints_one [loc - s]
          case c3 => unfold maxLen; omega
          case c4 => omega
          case c5 => simp; omega
          intro A3 c3 w3 hown3 hb3 _
          have HO3 := Lib.hid (ownI_snoc hown3)
          have HB3 := Lib.hid ((HB1.out.alloc (by omega) _).trans (hb3.mono (by omega)))
          have HX3 := Lib.hid ((HX1.out.alloc _).below hb3 (by omega))
          clear hown3 hb3
          go_wp2
          go_roundw
          case rel => exact ⟨k + 1, A3, c3, by omega, by go_num, by rw [HN.out]; simp, by rw [HN.out]; exact HO3.out, HB3.out, HX3.out⟩
          case measure => simp [intOf]; omega
        · have HN := Lib.hid (rInst_no hyes)
          generalize sFrom l k = a at *
          generalize sLast l k = b at *
          generalize sOff o l k = s at *
          rcases bool_cases (a + s ≤ loc) with d3 | d3
          · have d4 : decide (loc ≤ b + s) = false := by simp at d3; simp; omega
            clear hyes
            go_wp2
            go_roundw
            case rel => exact ⟨k + 1, A1, c1, by omega, by go_num, by rw [HN.out], by rw [HN.out]; exact HO1.out, HB1.out, HX1.out⟩
            case measure => simp [intOf]; omega
          · clear hyes
            go_wp2
            go_roundw
            case rel => exact ⟨k + 1, A1, c1, by omega, by go_num, by rw [HN.out], by rw [HN.out]; exact HO1.out, HB1.out, HX1.out⟩
            case measure => simp [intOf]; omega
      · obtain rfl : k = l.length + 1 := by omega
        go_wp2
        go_ret2
        exact ⟨A1, c1, by rw [← HI.out, HZ.out]; rfl, HBL.out, by rw [← HI.out]; exact own_rdI HOW.out⟩
  · have HI : Hid (instL o l loc = []) := Lib.hid (by unfold instL; rw [if_neg (fun h => hz h.1)])
    have hz' : (zerr o l != 0) = true := by simpa using hz
    clear hz HS
    generalize hze : zerr o l = ze at *
    have HZ := Lib.hid hze
    clear hze
    go_enter Try.func30, Try.ntmps30
    go_wp2_with fail
    refine (HC.out _ (HA.out _)).mono ?_
    rintro e w1 ⟨rfl, hb1⟩
    have HB1 := Lib.hid ((HA.out _).trans (hb1.mono (by simp)))
    clear hb1
    go_wp2
    go_ret2
    exact inst_nil HZ.out HI.out HB1.out

variable (hl : l.length ≤ 9223372036854775807)
include hl
set_option maxHeartbeats 800000 in
theorem rFirst_any (loc : Int) : Calls Try.prog 32 #[.agg #[.int .i64 o, .slice A l.length c], .int .i64 loc] w (RetII (firstR o l loc) (zerr o l) w) := by
  have HC : Hid (∀ W, Below w.heap.size w W → Calls Try.prog 31 #[.agg #[.int .i64 o, .slice A l.length c]] W (RetI (zerr o l) W)) := Lib.hid (fun W hW => rvalid_any A c B o l W (hr.below (hW.mono hB)) (Nat.le_trans hB hW.size) hl)
  have HF : Hid (ZVal o l → ∀ W, Below w.heap.size w W → Calls Try.prog 39 #[.agg #[.int .i64 o, .slice A l.length c], .int .i64 loc] W (RetI (firstV o l loc) W)) := Lib.hid (fun hV W hW => rfirst_any A c B o l W (hr.below (hW.mono hB)) (Nat.le_trans hB hW.size) hV loc)
  have HA : Hid (∀ ob, Below w.heap.size w (w.alloc ob)) := Lib.hid (fun ob => (Below.refl _ _).alloc (Nat.le_refl _) ob)
  clear hr
  by_cases hz : zerr o l = 0
  · have HV := Lib.hid (zval_of hz)
    have HE : Hid (firstR o l loc = firstV o l loc) := Lib.hid (if_pos hz)
    have HZ := Lib.hid hz
    rw [hz] at HC
    clear hz
    go_enter Try.func32, Try.ntmps32
    go_wp2_with fail
    refine (HC.out _ (HA.out _)).mono ?_
    rintro e w1 ⟨rfl, hb1⟩
    have b0 : w1.cell? ⟨w.heap.size, 0, none⟩ = some (.int .i64 o) := (hb1.cell (by simp)).trans ((Blk.new _ _ _).cell 0)
    have b1 : w1.cell? ⟨w.heap.size, 1, none⟩ = some (.slice A l.length c) := (hb1.cell (by simp)).trans ((Blk.new _ _ _).cell 1)
    have HB1 := Lib.hid ((HA.out _).trans (hb1.mono (by simp)))
    clear hb1
    go_wp2_with fail
    refine (HF.out HV.out _ HB1.out).mono ?_
    rintro e w2 ⟨rfl, hb2⟩
    have HB2 := Lib.hid (HB1.out.trans (hb2.mono HB1.out.size))
    clear hb2 b0 b1
    go_wp2
    go_ret2
    exact retII_of HE.out.symm HZ.out.symm HB2.out
  · have HE : Hid (firstR o l loc = 0) := Lib.hid (if_neg hz)
    have hz' : (zerr o l != 0) = true := by simpa using hz
    clear hz
    generalize zerr o l = ze at *
    go_enter Try.func32, Try.ntmps32
    go_wp2_with fail
    refine (HC.out _ (HA.out _)).mono ?_
    rintro e w1 ⟨rfl, hb1⟩
    have HB1 := Lib.hid ((HA.out _).trans (hb1.mono (by simp)))
    clear hb1
    go_wp2
    go_ret2
    exact retII_of HE.out.symm rfl HB1.out


set_option maxHeartbeats 800000 in
theorem rbegin_any (hV : ZVal o l) (d : Int) (h0 : 0 ≤ d) (h1 : d ≤ 84006) : Calls Try.prog 40 #[.agg #[.int .i64 o, .slice A l.length c], .int .i64 d] w (RetI (beginV o l d) w) := by
  have _hl := hl
  have HF : Hid (∀ W, Below w.heap.size w W → Calls Try.prog 39 #[.agg #[.int .i64 o, .slice A l.length c], .int .i64 (d * 1440)] W (RetI (firstV o l (d * 1440)) W)) := Lib.hid (fun W hW => rfirst_any A c B o l W (hr.below (hW.mono hB)) (Nat.le_trans hB hW.size) hV (d * 1440))
  have HA : Hid (∀ ob, Below w.heap.size w (w.alloc ob)) := Lib.hid (fun ob => (Below.refl _ _).alloc (Nat.le_refl _) ob)
  clear hr hV
  by_cases e0 : d = 0
  · have HE : Hid (beginV o l d = 0) := Lib.hid (by unfold beginV; rw [if_pos e0])
    have t0 : (d == 0) = true := by simpa using e0
    clear e0
    go_enter Try.func40, Try.ntmps40
    go_wp2
    go_ret
    exact ⟨ret_int HE.out.symm, HA.out _⟩
  · have t0 : (d == 0) = false := by simpa using e0
    by_cases e1 : d = 84006
    · have HE : Hid (beginV o l d = 120968640) := Lib.hid (by unfold beginV; rw [if_neg e0, if_pos e1])
      have t1 : (d == 84006) = true := by simpa using e1
      clear e0 e1
      go_enter Try.func40, Try.ntmps40
      go_wp2
      go_ret
      exact ⟨ret_int HE.out.symm, HA.out _⟩
    · have HE : Hid (beginV o l d = firstV o l (d * 1440)) := Lib.hid (by unfold beginV; rw [if_neg e0, if_neg e1])
      have t1 : (d == 84006) = false := by simpa using e1
      go_enter Try.func40, Try.ntmps40
      go_wp2_with fail
      refine (HF.out _ (HA.out _)).mono ?_
      rintro e w1 ⟨rfl, hb1⟩
      have HB1 := Lib.hid ((HA.out _).trans (hb1.mono (by simp)))
      clear hb1
      go_wp2
      go_ret
      exact ⟨ret_int HE.out.symm, HB1.out⟩

set_option maxHeartbeats 800000 in
theorem rBegin_any (d : Int) : Calls Try.prog 33 #[.agg #[.int .i64 o, .slice A l.length c], .int .i64 d] w (RetII (begR o l d) (begE o l d) w) := by
  have HC : Hid (∀ W, Below w.heap.size w W → Calls Try.prog 31 #[.agg #[.int .i64 o, .slice A l.length c]] W (RetI (zerr o l) W)) := Lib.hid (fun W hW => rvalid_any A c B o l W (hr.below (hW.mono hB)) (Nat.le_trans hB hW.size) hl)
  have HF : Hid (ZVal o l → 0 ≤ d → d ≤ 84006 → ∀ W, Below w.heap.size w W → Calls Try.prog 40 #[.agg #[.int .i64 o, .slice A l.length c], .int .i64 d] W (RetI (beginV o l d) W)) := Lib.hid (fun hV h0 h1 W hW => rbegin_any A c B o l W (hr.below (hW.mono hB)) (Nat.le_trans hB hW.size) hl hV d h0 h1)
  have HA : Hid (∀ ob, Below w.heap.size w (w.alloc ob)) := Lib.hid (fun ob => (Below.refl _ _).alloc (Nat.le_refl _) ob)
  clear hr
  by_cases hz : zerr o l = 0
  · have hV := zval_of hz
    rw [hz] at HC
    by_cases hd : 0 ≤ d ∧ d ≤ 84006
    · have HR : Hid (begR o l d = beginV o l d) := Lib.hid (if_pos ⟨hz, hd⟩)
      have HE : Hid (begE o l d = 0) := Lib.hid (by unfold begE; rw [if_pos hz, if_pos hd])
      have HF := Lib.hid (HF.out hV hd.1 hd.2)
      have d1 : decide (d < 0) = false := by simp; omega
      have d2 : decide (84006 < d) = false := by simp; omega
      clear hz hV
      go_enter Try.func33, Try.ntmps33
      go_wp2_with fail
      refine (HC.out _ (HA.out _)).mono ?_
      rintro e w1 ⟨rfl, hb1⟩
      have HX := Lib.hid (box_calc (w := w) (Blk.new w 27 #[.int .i64 o, .slice A l.length c]) hb1)
      have HB1 := Lib.hid ((HA.out _).trans (hb1.mono (by simp)))
      have z0 := HX.out.cell 0
      have z1 := HX.out.cell 1
      simp at z0 z1
      clear hb1
      go_wp2_with fail
      refine (HF.out _ HB1.out).mono ?_
      rintro e w2 ⟨rfl, hb2⟩
      have HB2 := Lib.hid (HB1.out.trans (hb2.mono HB1.out.size))
      clear hb2
      go_wp2
      go_ret2
      exact retII_of HR.out.symm HE.out.symm HB2.out
    · have HR : Hid (begR o l d = 0) := Lib.hid (if_neg (fun h => hd h.2))
      have HE : Hid (begE o l d = 2) := Lib.hid (by unfold begE; rw [if_pos hz, if_neg hd])
      clear hz hV HF
      rcases bool_cases (d < 0) with d1 | d1
      · go_enter Try.func33, Try.ntmps33
        go_wp2_with fail
        refine (HC.out _ (HA.out _)).mono ?_
        rintro e w1 ⟨rfl, hb1⟩
        have HB1 := Lib.hid ((HA.out _).trans (hb1.mono (by simp)))
        clear hb1
        go_wp2
        go_ret2
        exact retII_of HR.out.symm HE.out.symm HB1.out
      · have d2 : decide (84006 < d) = true := by simp at d1; simp; omega
        go_enter Try.func33, Try.ntmps33
        go_wp2_with fail
        refine (HC.out _ (HA.out _)).mono ?_
        rintro e w1 ⟨rfl, hb1⟩
        have HB1 := Lib.hid ((HA.out _).trans (hb1.mono (by simp)))
        clear hb1
        go_wp2
        go_ret2
        exact retII_of HR.out.symm HE.out.symm HB1.out
  · have HR : Hid (begR o l d = 0) := Lib.hid (if_neg (fun h => hz h.1))
    have HE : Hid (begE o l d = zerr o l) := Lib.hid (by unfold begE; rw [if_neg hz])
    have hz' : (zerr o l != 0) = true := by simpa using hz
    clear hz HF
    generalize zerr o l = ze at *
    go_enter Try.func33, Try.ntmps33
    go_wp2_with fail
    refine (HC.out _ (HA.out _)).mono ?_
    rintro e w1 ⟨rfl, hb1⟩
    have HB1 := Lib.hid ((HA.out _).trans (hb1.mono (by simp)))
    clear hb1
    go_wp2
    go_ret2
    exact retII_of HR.out.symm HE.out.symm HB1.out

set_option maxHeartbeats 1600000 in
theorem rday_any (t : Int) : Calls Try.prog 34 #[.agg #[.int .i64 o, .slice A l.length c], .int .i64 t] w (RetII (dayR o l t) (offE o l t) w) := by
  have HC : Hid (∀ W, Below w.heap.size w W → Calls Try.prog 28 #[.agg #[.int .i64 o, .slice A l.length c], .int .i64 t] W (RetII (offV o l t) (offE o l t) W)) := Lib.hid (fun W hW => roffset_any A c B o l W (hr.below (hW.mono hB)) (Nat.le_trans hB hW.size) hl t)
  have HF : Hid (ZVal o l → ∀ d, 0 ≤ d → d ≤ 84006 → ∀ W, Below w.heap.size w W → Calls Try.prog 40 #[.agg #[.int .i64 o, .slice A l.length c], .int .i64 d] W (RetI (beginV o l d) W)) := Lib.hid (fun hV d h0 h1 W hW => rbegin_any A c B o l W (hr.below (hW.mono hB)) (Nat.le_trans hB hW.size) hl hV d h0 h1)
  have HA : Hid (∀ ob, Below w.heap.size w (w.alloc ob)) := Lib.hid (fun ob => (Below.refl _ _).alloc (Nat.le_refl _) ob)
  clear hr
  by_cases he : offE o l t = 0
  · have hz : zerr o l = 0 := by
      by_cases h : zerr o l = 0
      · exact h
      · rw [(off_err (t := t) h).1] at he; exact he
    have hi : instOk t := by
      by_cases h : instOk t
      · exact h
      · rw [(off_range hz h).1] at he; omega
    have hV := zval_of hz
    have HF := Lib.hid (HF.out hV)
    have HR : Hid (dayR o l t = dayV o l t) := Lib.hid (if_pos he)
    have HE := Lib.hid he
    have hdb := dayV_bd hV t hi
    have HBI := Lib.hid (fun d h0 h1 => begin_iff hV d t hi h0 h1)
    have hG := dayG_iff hV (t + 841) t hi
    have hdt : dayV o l t ≤ t / 1440 + 2 := by
      have : ¬ t + 841 ≤ dayL (segs o l) t 0 := by
        intro h
        rcases hG.1 h with h | ⟨x, x0, x1, x2⟩
        · obtain ⟨h0, _⟩ := hi; omega
        · have := lmin_bd hV x; omega
      clear hG
      unfold dayV
      omega
    obtain ⟨t0, t1⟩ := hi
    rw [he] at HC
    clear he hz hV hG
    generalize dayV o l t = D at *
    generalize offV o l t = ov at *
    obtain ⟨mn, hmn, hmn0⟩ : ∃ mn : Int, (if 84005 < t / 1440 + 2 then (84005 : Int) else t / 1440 + 2) = mn ∧ (D ≤ mn ∧ mn ≤ 84005) := ⟨_, rfl, by split <;> omega⟩
    go_enter Try.func34, Try.ntmps34
    go_wp2_with fail
    refine (HC.out _ (HA.out _)).mono ?_
    rintro e w1 ⟨rfl, hb1⟩
    have HX := Lib.hid (box_calc (w := w) (Blk.new w 27 #[.int .i64 o, .slice A l.length c]) hb1)
    have HB1 := Lib.hid ((HA.out _).trans (hb1.mono (by simp)))
    clear hb1
    go_wp2
    clear hmn
    go_loopw [8] (fun i wr => ∃ d : Int, D ≤ d ∧ d ≤ 84005 ∧ i = .int .i64 d ∧ Below w.heap.size w wr ∧ Blk wr w.heap.size 27 #[.int .i64 o, .slice A l.length c]) (fun i _ => (intOf i - D).toNat)
    case atStart => exact ⟨mn, hmn0.1, hmn0.2, rfl, HB1.out, HX.out⟩
    case round =>
      obtain ⟨d, hd0, hd1, rfl, hbl, hbx⟩ := hrel
      have HBL := Lib.hid hbl
      have HBX := Lib.hid hbx
      have z0 := hbx.cell 0
      have z1 := hbx.cell 1
      simp at z0 z1
      have hbi := HBI.out d (by omega) (by omega)
      clear hbl hbx HX HB1
      by_cases hc : d = D
      · subst hc
        have h4 := hbi.2 (Int.le_refl _)
        have d1 : decide (t < beginV o l d) = false := by simpa using h4
        clear hbi h4
        go_wp2_with fail
        refine (HF.out d (by omega) (by omega) _ HBL.out).mono ?_
        rintro e w2 ⟨rfl, hb2⟩
        have HB2 := Lib.hid (HBL.out.trans (hb2.mono HBL.out.size))
        clear hb2
        generalize beginV o l d = bv at *
        go_wp2
        go_ret2
        exact retII_of HR.out.symm HE.out.symm HB2.out
      · have d1 : decide (t < beginV o l d) = true := by
          have : ¬ beginV o l d ≤ t := fun h => by have := hbi.1 h; omega
          simpa using this
        clear hbi
        go_wp2_with fail
        refine (HF.out d (by omega) (by omega) _ HBL.out).mono ?_
        rintro e w2 ⟨rfl, hb2⟩
        have HB2 := Lib.hid (HBL.out.trans (hb2.mono HBL.out.size))
        have HX2 := Lib.hid (box_calc HBX.out hb2)
        clear hb2
        generalize beginV o l d = bv at *
        go_wp2
        go_roundw
        case rel => exact ⟨d - 1, by omega, by omega, rfl, HB2.out, HX2.out⟩
        case measure => simp [intOf]; omega
  · have HR : Hid (dayR o l t = 0) := Lib.hid (if_neg he)
    have he' : (offE o l t != 0) = true := by simpa using he
    clear he HF
    generalize offE o l t = oe at *
    generalize offV o l t = ov at *
    go_enter Try.func34, Try.ntmps34
    go_wp2_with fail
    refine (HC.out _ (HA.out _)).mono ?_
    rintro e w1 ⟨rfl, hb1⟩
    have HB1 := Lib.hid ((HA.out _).trans (hb1.mono (by simp)))
    clear hb1
    go_wp2
    go_ret2
    exact retII_of HR.out.symm rfl HB1.out
end
end Go.Proofs.Ytmahhpemljopiaa
