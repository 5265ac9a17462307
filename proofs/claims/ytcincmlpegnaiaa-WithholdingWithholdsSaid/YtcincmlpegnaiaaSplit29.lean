/-
  Contracts of check and Split, of the program and of the reference: the same parts, the same errors.
-/
import Derived.Test.YtcincmlpegnaiaaVal29
import Derived.Test.YtcincmlpegnaiaaPlain29
namespace Go.Proofs.Ytcincmlpegnaiaa
open Go.RowKit
set_option linter.unusedVariables false
set_option linter.unusedSimpArgs false

/-- the error of a schedule and an income -/
noncomputable def chk (l : List (Int × Int)) (n : Int) : Int := if valB l = true then (if n < 0 ∨ 1000000000000 < n then 2 else 0) else 1
theorem chk_bad {l : List (Int × Int)} {n : Int} (h : ¬ Val l) : chk l n = 1 := by unfold chk; rw [valB_false h]; rfl
theorem chk_out {l : List (Int × Int)} {n : Int} (h : Val l) (hn : n < 0 ∨ 1000000000000 < n) : chk l n = 2 := by unfold chk; rw [valB_true h, if_pos rfl, if_pos hn]
theorem chk_ok {l : List (Int × Int)} {n : Int} (h : Val l) (h0 : 0 ≤ n) (h1 : n ≤ 1000000000000) : chk l n = 0 := by unfold chk; rw [valB_true h, if_pos rfl, if_neg (by omega)]

/-- it returns the number v, and nothing that was there has turned -/
def RetI (v : Int) (w : World) (e : Ending) (w' : World) : Prop := e = .returned (.int .i64 v) ∧ Below w.heap.size w w'

section
variable (A : Option Addr) (c B : Nat) (l : List (Int × Int)) (w : World) (hr : RdP w B A l) (hB : B ≤ w.heap.size) (hl : l.length ≤ 9223372036854775807)
include hr hB hl
theorem valid_t (h : Val l) : Calls Try.prog 53 #[.slice A l.length c] w (RetB true w) := by
  have := valid_any A c B l w hr hB hl
  rwa [valB_true h] at this
theorem valid_f (h : ¬ Val l) : Calls Try.prog 53 #[.slice A l.length c] w (RetB false w) := by
  have := valid_any A c B l w hr hB hl
  rwa [valB_false h] at this
theorem refValid_t (h : Val l) : Calls Try.prog 54 #[.slice A l.length c] w (RetB true w) := by
  have := refValid_any A c B l w hr hB hl
  rwa [valB_true h] at this
theorem refValid_f (h : ¬ Val l) : Calls Try.prog 54 #[.slice A l.length c] w (RetB false w) := by
  have := refValid_any A c B l w hr hB hl
  rwa [valB_false h] at this

set_option maxHeartbeats 400000 in
theorem check_any (n : Int) : Calls Try.prog 65 #[.slice A l.length c, .int .i64 n] w (RetI (chk l n) w) := by
  by_cases hV : Val l
  · have HC := Lib.hid (valid_t A c B l w hr hB hl hV)
    by_cases hn : n < 0
    · have hd : decide (n < 0) = true := by simpa using hn
      have he := Lib.hid (chk_out (n := n) hV (.inl hn))
      clear hr
      go_enter Try.func65, Try.ntmps65
      go_wp2_with fail
      refine HC.out.mono ?_
      rintro e w' ⟨rfl, hb⟩
      have HB := Lib.hid hb
      clear hb
      go_wp2
      go_ret
      exact ⟨ret_int he.out.symm, HB.out⟩
    · have hd : decide (n < 0) = false := by simpa using hn
      by_cases hn2 : 1000000000000 < n
      · have hd2 : decide (1000000000000 < n) = true := by simpa using hn2
        have he := Lib.hid (chk_out (n := n) hV (.inr hn2))
        clear hr
        go_enter Try.func65, Try.ntmps65
        go_wp2_with fail
        refine HC.out.mono ?_
        rintro e w' ⟨rfl, hb⟩
        have HB := Lib.hid hb
        clear hb
        go_wp2
        go_ret
        exact ⟨ret_int he.out.symm, HB.out⟩
      · have hd2 : decide (1000000000000 < n) = false := by simpa using hn2
        have he := Lib.hid (chk_ok (n := n) hV (by omega) (by omega))
        clear hr
        go_enter Try.func65, Try.ntmps65
        go_wp2_with fail
        refine HC.out.mono ?_
        rintro e w' ⟨rfl, hb⟩
        have HB := Lib.hid hb
        clear hb
        go_wp2
        go_ret
        exact ⟨ret_int he.out.symm, HB.out⟩
  · have HC := Lib.hid (valid_f A c B l w hr hB hl hV)
    have he := Lib.hid (chk_bad (n := n) hV)
    clear hr
    go_enter Try.func65, Try.ntmps65
    go_wp2_with fail
    refine HC.out.mono ?_
    rintro e w' ⟨rfl, hb⟩
    have HB := Lib.hid hb
    clear hb
    go_wp2
    go_ret
    exact ⟨ret_int he.out.symm, HB.out⟩
set_option maxHeartbeats 400000 in
theorem refCheck_any (n : Int) : Calls Try.prog 66 #[.slice A l.length c, .int .i64 n] w (RetI (chk l n) w) := by
  by_cases hV : Val l
  · have HC := Lib.hid (refValid_t A c B l w hr hB hl hV)
    by_cases hn : n < 0
    · have hd : decide (n < 0) = true := by simpa using hn
      have he := Lib.hid (chk_out (n := n) hV (.inl hn))
      clear hr
      go_enter Try.func66, Try.ntmps66
      go_wp2_with fail
      refine HC.out.mono ?_
      rintro e w' ⟨rfl, hb⟩
      have HB := Lib.hid hb
      clear hb
      go_wp2
      go_ret
      exact ⟨ret_int he.out.symm, HB.out⟩
    · have hd : decide (n < 0) = false := by simpa using hn
      by_cases hn2 : 1000000000000 < n
      · have hd2 : decide (1000000000000 < n) = true := by simpa using hn2
        have he := Lib.hid (chk_out (n := n) hV (.inr hn2))
        clear hr
        go_enter Try.func66, Try.ntmps66
        go_wp2_with fail
        refine HC.out.mono ?_
        rintro e w' ⟨rfl, hb⟩
        have HB := Lib.hid hb
        clear hb
        go_wp2
        go_ret
        exact ⟨ret_int he.out.symm, HB.out⟩
      · have hd2 : decide (1000000000000 < n) = false := by simpa using hn2
        have he := Lib.hid (chk_ok (n := n) hV (by omega) (by omega))
        clear hr
        go_enter Try.func66, Try.ntmps66
        go_wp2_with fail
        refine HC.out.mono ?_
        rintro e w' ⟨rfl, hb⟩
        have HB := Lib.hid hb
        clear hb
        go_wp2
        go_ret
        exact ⟨ret_int he.out.symm, HB.out⟩
  · have HC := Lib.hid (refValid_f A c B l w hr hB hl hV)
    have he := Lib.hid (chk_bad (n := n) hV)
    clear hr
    go_enter Try.func66, Try.ntmps66
    go_wp2_with fail
    refine HC.out.mono ?_
    rintro e w' ⟨rfl, hb⟩
    have HB := Lib.hid hb
    clear hb
    go_wp2
    go_ret
    exact ⟨ret_int he.out.symm, HB.out⟩
end

/-- a block of numbers of which the first k are filled -/
def pc (f : Nat → Int) (m k : Nat) : Array Value := ((List.range m).map fun i => Value.int .i64 (if i < k then f i else 0)).toArray
theorem pc_size (f : Nat → Int) (m k : Nat) : (pc f m k).size = m := by simp [pc]
theorem pc_get (f : Nat → Int) (m k i : Nat) (h : i < m) : (pc f m k)[i]? = some (.int .i64 (if i < k then f i else 0)) := by simp [pc, h]
theorem pc_set (f : Nat → Int) (m k : Nat) : (pc f m k).setIfInBounds k (.int .i64 (f k)) = pc f m (k + 1) := by
  apply Array.ext_getElem?
  intro i
  rw [Array.getElem?_setIfInBounds, pc_size]
  by_cases hi : i < m
  · rw [pc_get _ _ _ _ hi, pc_get _ _ _ _ hi]
    by_cases e : k = i
    · subst e; simp [hi]
    · rw [if_neg e]
      by_cases h2 : i < k
      · rw [if_pos h2, if_pos (by omega)]
      · rw [if_neg h2, if_neg (by omega)]
  · have h1 : (pc f m k)[i]? = none := Array.getElem?_eq_none (by rw [pc_size]; omega)
    have h2 : (pc f m (k + 1))[i]? = none := Array.getElem?_eq_none (by rw [pc_size]; omega)
    rw [h1, h2]
    split <;> simp <;> omega
theorem made_pc (f : Nat → Int) (m : Nat) : madeCells #[.int .i64 0] (m * 1) = pc f m 0 := by
  apply Array.ext'
  rw [toList_madeCells_one]
  apply List.ext_getElem? 
  intro i
  simp [pc, List.getElem?_replicate, List.getElem?_map]
  by_cases h : i < m <;> simp [h]
theorem run_make_rowN {P : Program} (t e : TypeId) (i : TypeInfo) (z : Value) (ht : P.underlying t = some (.slice e)) (hi : P.info? e = some i) (hz : i.zero = some z)
    (kl kc : IntKind) (n c : Nat) (hnc : n ≤ c) (hbytes : i.bytes * c ≤ 281474976710656) (h63 : c ≤ 9223372036854775807) (w : World) :
    (Instr.makeSlice t (.int kl (n : Int)) (.int kc (c : Int))).run P w = .ok (.slice (some ⟨w.heap.size, 0, none⟩) n c) (w.alloc (.cells (madeCells z.cells (c * i.size)) e)) := by
  have hb : (i.bytes : Int) * (c : Int) ≤ 281474976710656 := by
    have h : ((i.bytes * c : Nat) : Int) ≤ 281474976710656 := by omega
    rwa [Int.natCast_mul] at h
  have hr := run_make (P := P) w t e i z ht hi hz kl kc n c (by omega) (by omega) hb (by omega)
  simp only [Int.toNat_natCast] at hr
  exact hr
theorem infoInt : (Try.prog.info? 3).map (fun i => (i.zero, i.size, i.bytes)) = some (some (.int .i64 0), 1, 8) := by kernel_rfl
theorem make_ints (f : Nat → Int) (m : Nat) (hm : m ≤ 1000000) (W : World) :
    (Instr.makeSlice 22 (.int .i64 (m : Int)) (.int .i64 (m : Int))).run Try.prog W = .ok (.slice (some ⟨W.heap.size, 0, none⟩) m m) (W.alloc (.cells (pc f m 0) 3)) := by
  obtain ⟨i0, hi, hz0, hz1, hz2⟩ := info_parts infoInt
  have := run_make_rowN (P := Try.prog) 22 3 i0 (.int .i64 0) Try.underlying22 hi hz0 .i64 .i64 m m (Nat.le_refl _) (by rw [hz2]; omega) (by omega) W
  rw [this, hz1]
  show Result.ok _ (W.alloc (.cells (madeCells #[.int .i64 0] (m * 1)) 3)) = _
  rw [made_pc f m]

/-- the parts of an income -/
def partF (l : List (Int × Int)) (n : Int) (i : Nat) : Int := pt (fst2 l) l.length n i
def parts (l : List (Int × Int)) (n : Int) : List Int := (List.range l.length).map (partF l n)
theorem parts_length (l : List (Int × Int)) (n : Int) : (parts l n).length = l.length := by simp [parts]
theorem parts_at (l : List (Int × Int)) (n : Int) (i : Nat) (h : i < l.length) : at1 (parts l n) i = partF l n i := by simp [parts, at1, h]
theorem part_last {l : List (Int × Int)} {n : Int} {k : Nat} (h : ¬ k + 1 < l.length) : partF l n k = max (n - fst2 l k) 0 := by unfold partF pt; rw [if_neg h]
theorem part_mid {l : List (Int × Int)} {n : Int} {k : Nat} (h : k + 1 < l.length) : partF l n k = max (min n (fst2 l (k + 1)) - fst2 l k) 0 := by unfold partF pt; rw [if_pos h]

/-- Split returns the parts, or the error -/
noncomputable def splitL (l : List (Int × Int)) (n : Int) : List Int := if chk l n = 0 then parts l n else []
def SplitPost (l : List (Int × Int)) (n : Int) (w : World) (e : Ending) (w' : World) : Prop :=
  ∃ A c, e = .returned (.tuple #[.slice A (splitL l n).length c, .int .i64 (chk l n)]) ∧ Below w.heap.size w w' ∧ RdI w' w'.heap.size A (splitL l n)
theorem split_no {l : List (Int × Int)} {n : Int} {w w' : World} (k : Int) (hk : k ≠ 0) (h : chk l n = k) (hb : Below w.heap.size w w') : SplitPost l n w (.returned (.tuple #[.slice none 0 0, .int .i64 k])) w' := by
  have e : splitL l n = [] := by unfold splitL; rw [h, if_neg hk]
  refine ⟨none, 0, by rw [h, e]; rfl, hb, ?_⟩
  rw [e]
  exact Rd.none_
theorem split_yes {l : List (Int × Int)} {n : Int} {w w' : World} {g m : Nat} (h : chk l n = 0) (hb : Below w.heap.size w w') (hk : Blk w' g 3 (pc (partF l n) l.length m)) (hm : l.length ≤ m) :
    SplitPost l n w (.returned (.tuple #[.slice (some ⟨g, 0, none⟩) l.length l.length, .int .i64 0])) w' := by
  have e : splitL l n = parts l n := by unfold splitL; rw [h, if_pos rfl]
  refine ⟨some ⟨g, 0, none⟩, l.length, by rw [h, e, parts_length], hb, ?_⟩
  rw [e]
  intro _
  refine ⟨g, 0, rfl, hk.lt, fun i j hi hj => ?_⟩
  rw [parts_length] at hi
  have hj0 : j = 0 := by omega
  subst hj0
  rw [Nat.zero_add, Nat.mul_one, Nat.add_zero, hk.cell i, pc_get _ _ _ _ hi, if_pos (by omega)]
  show _ = some (Value.int .i64 (at1 (parts l n) i))
  rw [parts_at l n i hi]
theorem val_from {l : List (Int × Int)} (h : Val l) : ∀ i, i < l.length → 0 ≤ fst2 l i ∧ fst2 l i ≤ 1000000000000
  | 0, hi => by have := h.2.2.1; omega
  | i + 1, hi => by
    have h1 := val_from h i (by omega)
    have h2 := h.2.2.2 (i + 1) hi
    have h3 := h2.1 (by omega)
    simp only [Nat.add_sub_cancel] at h3
    exact ⟨by omega, h2.2.1⟩
theorem val_rate {l : List (Int × Int)} (h : Val l) (i : Nat) (hi : i < l.length) : 0 ≤ snd2 l i ∧ snd2 l i ≤ 1000000 := (h.2.2.2 i hi).2.2
theorem val_step {l : List (Int × Int)} (h : Val l) (i : Nat) (hi : i + 1 < l.length) : fst2 l i < fst2 l (i + 1) := by
  have := (h.2.2.2 (i + 1) hi).1 (by omega)
  simpa using this
theorem split_store {l : List (Int × Int)} {n : Int} {g k : Nat} {w : World} (hk : Blk w g 3 (pc (partF l n) l.length k)) (o : Obj) {x : Int} (hx : x = partF l n k) :
    Blk ((w.setCell ⟨g, k, none⟩ (.int .i64 x)).alloc o) g 3 (pc (partF l n) l.length (k + 1)) := by
  have := (hk.set_ k (.int .i64 x)).alloc o
  rw [hx, pc_set] at this
  rwa [hx]
theorem split_store' {l : List (Int × Int)} {n : Int} {g k : Nat} {w : World} (hk : Blk w g 3 (pc (partF l n) l.length k)) {x : Int} (hx : x = partF l n k) :
    Blk (w.setCell ⟨g, k, none⟩ (.int .i64 x)) g 3 (pc (partF l n) l.length (k + 1)) := by
  have := hk.set_ k (.int .i64 x)
  rw [hx, pc_set] at this
  rwa [hx]

section
variable (A : Option Addr) (c B : Nat) (l : List (Int × Int)) (w : World) (hr : RdP w B A l) (hB : B ≤ w.heap.size) (hl : l.length ≤ 9223372036854775807)
include hr hB hl

set_option maxHeartbeats 800000 in
theorem split_any (n : Int) : Calls Try.prog 63 #[.slice A l.length c, .int .i64 n] w (SplitPost l n w) := by
  have HC := Lib.hid (check_any A c B l w hr hB hl n)
  by_cases hV : Val l
  · by_cases hn : 0 ≤ n ∧ n ≤ 1000000000000
    · have hch := chk_ok hV hn.1 hn.2
      have H0 := Lib.hid hch
      rw [hch] at HC
      clear hch
      obtain ⟨b, off, rfl, hb, hc1, hc2⟩ := hr.all (by have := hV.1; omega)
      have HC1 := Lib.hid hc1
      have HC2 := Lib.hid hc2
      have HV := Lib.hid hV
      have hl24 : l.length ≤ 24 := hV.2.1
      have hmk := fun W => make_ints (partF l n) l.length (by omega) W
      obtain ⟨hn0, hn1⟩ := hn
      clear hr hc1 hc2 hV
      go_enter Try.func63, Try.ntmps63
      go_wp2_with fail
      refine HC.out.mono ?_
      rintro e w1 ⟨rfl, hb1⟩
      have HB1 := Lib.hid hb1
      clear hb1
      have hs1 := HB1.out.size
      go_wp2
      clear hmk
      go_loopw [22] (fun i wr => ∃ k : Nat, k ≤ l.length ∧ i = .int .i64 k ∧ Below w.heap.size w wr ∧ Blk wr w1.heap.size 3 (pc (partF l n) l.length k)) (fun i _ => l.length - (intOf i).toNat)
      case atStart => exact ⟨0, Nat.zero_le _, rfl, HB1.out.alloc hs1 _, Blk.new _ _ _⟩
      case round =>
        obtain ⟨k, hk, rfl, hbl, hbk⟩ := hrel
        have HBL := Lib.hid hbl
        have HBK := Lib.hid hbk
        clear hbl hbk
        have hsz := HBL.out.size
        have hlt2 := HBK.out.lt
        by_cases hlt : k < l.length
        · have e1 : wr.cell? ⟨b, off + k * 2, none⟩ = some (.int .i64 (fst2 l k)) := (HBL.out.cell (by show b < _; omega)).trans (HC1.out k hlt)
          have e2 : wr.cell? ⟨b, off + k * 2 + 1, none⟩ = some (.int .i64 (snd2 l k)) := (HBL.out.cell (by show b < _; omega)).trans (HC2.out k hlt)
          have hf := val_from HV.out k hlt
          have hbs : b < wr.heap.size := by omega
          have c1 : ∀ o, (wr.alloc o).cell? ⟨w1.heap.size, k, none⟩ = some (.int .i64 0) := fun o => by rw [(HBK.out.alloc o).cell k, pc_get _ _ _ _ hlt, if_neg (by omega)]
          have c2 : ∀ o, (wr.alloc o).frozen? ⟨w1.heap.size, k, none⟩ = false := fun o => (HBK.out.alloc o).frozen k
          by_cases hk1 : k + 1 < l.length
          · have hf1 := val_from HV.out (k + 1) hk1
            have e3 : ∀ o, (wr.alloc o).cell? ⟨b, off + (k + 1) * 2, none⟩ = some (.int .i64 (fst2 l (k + 1))) := fun o => (World.cell?_alloc_lt wr o ⟨b, off + (k + 1) * 2, none⟩ hbs).trans ((HBL.out.cell (by show b < _; omega)).trans (HC1.out (k + 1) hk1))
            have HP := Lib.hid (part_mid (n := n) hk1)
            go_wp2
            go_roundw
            case rel => exact ⟨k + 1, by omega, by go_num, (HBL.out.setCell (by show _ ≤ w1.heap.size; omega) _).alloc (by simp [World.setCell]; omega) _, split_store HBK.out _ (by rw [HP.out]; omega)⟩
            case measure => simp [intOf]; omega
          · have HP := Lib.hid (part_last (n := n) hk1)
            go_wp2
            go_roundw
            case rel => exact ⟨k + 1, by omega, by go_num, (HBL.out.setCell (by show _ ≤ w1.heap.size; omega) _).alloc (by simp [World.setCell]; omega) _, split_store HBK.out _ (by rw [HP.out]; omega)⟩
            case measure => simp [intOf]; omega
        · go_wp2
          go_ret2
          exact split_yes H0.out HBL.out HBK.out (by omega)
    · have hch := chk_out hV (n := n) (by omega)
      have H0 := Lib.hid hch
      rw [hch] at HC
      clear hch hr
      go_enter Try.func63, Try.ntmps63
      go_wp2_with fail
      refine HC.out.mono ?_
      rintro e w1 ⟨rfl, hb1⟩
      have HB1 := Lib.hid hb1
      clear hb1
      go_wp2
      go_ret2
      exact split_no 2 (by omega) H0.out HB1.out
  · have hch := chk_bad hV (n := n)
    have H0 := Lib.hid hch
    rw [hch] at HC
    clear hch hr
    go_enter Try.func63, Try.ntmps63
    go_wp2_with fail
    refine HC.out.mono ?_
    rintro e w1 ⟨rfl, hb1⟩
    have HB1 := Lib.hid hb1
    clear hb1
    go_wp2
    go_ret2
    exact split_no 1 (by omega) H0.out HB1.out

set_option maxHeartbeats 800000 in
theorem refSplit_any (n : Int) : Calls Try.prog 64 #[.slice A l.length c, .int .i64 n] w (SplitPost l n w) := by
  have HC := Lib.hid (refCheck_any A c B l w hr hB hl n)
  by_cases hV : Val l
  · by_cases hn : 0 ≤ n ∧ n ≤ 1000000000000
    · have hch := chk_ok hV hn.1 hn.2
      have H0 := Lib.hid hch
      rw [hch] at HC
      clear hch
      obtain ⟨b, off, rfl, hb, hc1, hc2⟩ := hr.all (by have := hV.1; omega)
      have HC1 := Lib.hid hc1
      have HC2 := Lib.hid hc2
      have HV := Lib.hid hV
      have hl24 : l.length ≤ 24 := hV.2.1
      have hmk := fun W => make_ints (partF l n) l.length (by omega) W
      obtain ⟨hn0, hn1⟩ := hn
      clear hr hc1 hc2 hV
      go_enter Try.func64, Try.ntmps64
      go_wp2_with fail
      refine HC.out.mono ?_
      rintro e w1 ⟨rfl, hb1⟩
      have HB1 := Lib.hid hb1
      clear hb1
      have hs1 := HB1.out.size
      go_wp2
      clear hmk
      go_loopw [8] (fun i wr => ∃ k : Nat, k ≤ l.length ∧ i = .int .i64 k ∧ Below w.heap.size w wr ∧ Blk wr w1.heap.size 3 (pc (partF l n) l.length k)) (fun i _ => l.length - (intOf i).toNat)
      case atStart => exact ⟨0, Nat.zero_le _, rfl, HB1.out.alloc hs1 _, Blk.new _ _ _⟩
      case round =>
        obtain ⟨k, hk, rfl, hbl, hbk⟩ := hrel
        have HBL := Lib.hid hbl
        have HBK := Lib.hid hbk
        clear hbl hbk
        have hsz := HBL.out.size
        have hlt2 := HBK.out.lt
        by_cases hlt : k < l.length
        · have e1 : wr.cell? ⟨b, off + k * 2, none⟩ = some (.int .i64 (fst2 l k)) := (HBL.out.cell (by show b < _; omega)).trans (HC1.out k hlt)
          have e2 : wr.cell? ⟨b, off + k * 2 + 1, none⟩ = some (.int .i64 (snd2 l k)) := (HBL.out.cell (by show b < _; omega)).trans (HC2.out k hlt)
          have hf := val_from HV.out k hlt
          have hbs : b < wr.heap.size := by omega
          have c1 : wr.cell? ⟨w1.heap.size, k, none⟩ = some (.int .i64 0) := by rw [HBK.out.cell k, pc_get _ _ _ _ hlt, if_neg (by omega)]
          have c2 : wr.frozen? ⟨w1.heap.size, k, none⟩ = false := HBK.out.frozen k
          by_cases hk1 : k + 1 < l.length
          · have hf1 := val_from HV.out (k + 1) hk1
            have e3 : wr.cell? ⟨b, off + (k + 1) * 2, none⟩ = some (.int .i64 (fst2 l (k + 1))) := ((HBL.out.cell (by show b < _; omega)).trans (HC1.out (k + 1) hk1))
            have HP := Lib.hid (part_mid (n := n) hk1)
            go_wp2
            go_roundw
            case rel => exact ⟨k + 1, by omega, by go_num, HBL.out.setCell (by show _ ≤ w1.heap.size; omega) _, split_store' HBK.out (by rw [HP.out]; omega)⟩
            case measure => simp [intOf]; omega
          · have HP := Lib.hid (part_last (n := n) hk1)
            go_wp2
            go_roundw
            case rel => exact ⟨k + 1, by omega, by go_num, HBL.out.setCell (by show _ ≤ w1.heap.size; omega) _, split_store' HBK.out (by rw [HP.out]; omega)⟩
            case measure => simp [intOf]; omega
        · go_wp2
          go_ret2
          exact split_yes H0.out HBL.out HBK.out (by omega)
    · have hch := chk_out hV (n := n) (by omega)
      have H0 := Lib.hid hch
      rw [hch] at HC
      clear hch hr
      go_enter Try.func64, Try.ntmps64
      go_wp2_with fail
      refine HC.out.mono ?_
      rintro e w1 ⟨rfl, hb1⟩
      have HB1 := Lib.hid hb1
      clear hb1
      go_wp2
      go_ret2
      exact split_no 2 (by omega) H0.out HB1.out
  · have hch := chk_bad hV (n := n)
    have H0 := Lib.hid hch
    rw [hch] at HC
    clear hch hr
    go_enter Try.func64, Try.ntmps64
    go_wp2_with fail
    refine HC.out.mono ?_
    rintro e w1 ⟨rfl, hb1⟩
    have HB1 := Lib.hid hb1
    clear hb1
    go_wp2
    go_ret2
    exact split_no 1 (by omega) H0.out HB1.out
end
end Go.Proofs.Ytcincmlpegnaiaa
