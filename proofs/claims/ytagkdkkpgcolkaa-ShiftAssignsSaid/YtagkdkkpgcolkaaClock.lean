/-
  Contracts of Instants, first, First, Begin and Day of package clock.
-/
import Derived.Test.YtagkdkkpgcolkaaSegs
namespace Go.Proofs.Ytagkdkkpgcolkaa
open Go.RowKit
set_option linter.unusedVariables false
set_option linter.unusedSimpArgs false

def SegOk (S : List T3) : Prop := ∀ s ∈ S, 0 ≤ s.1 ∧ s.1 ≤ 120968639 ∧ 0 ≤ s.2.1 ∧ s.2.1 ≤ 120968640 ∧ -840 ≤ s.2.2 ∧ s.2.2 ≤ 840
theorem sFrom_bd {o : Int} {l : List (Int × Int)} (h : ZVal o l) (k : Nat) (hk : k ≤ l.length) : 0 ≤ sFrom l k ∧ sFrom l k ≤ 120968639 := by
  unfold sFrom
  split
  · omega
  · have := h.2.2.1 (k - 1) (by omega); omega
theorem sOff_bd {o : Int} {l : List (Int × Int)} (h : ZVal o l) (k : Nat) (hk : k ≤ l.length) : -840 ≤ sOff o l k ∧ sOff o l k ≤ 840 := by
  unfold sOff
  split
  · exact h.2.1
  · exact (h.2.2.1 (k - 1) (by omega)).2.2
theorem segs_ok {o : Int} {l : List (Int × Int)} (h : ZVal o l) : SegOk (segs o l) := by
  have : ∀ k, k ≤ l.length → SegOk (sgTo o l k) := by
    intro k
    induction k with
    | zero => intro _ s hs; simp [sgTo] at hs
    | succ k ih =>
      intro hk s hs
      have hs' : s ∈ (if sFrom l k < fst2 l k then sgTo o l k ++ [(sFrom l k, fst2 l k, sOff o l k)] else sgTo o l k) := hs
      split at hs'
      · rw [List.mem_append] at hs'
        rcases hs' with hs' | hs'
        · exact ih (by omega) s hs'
        · simp at hs'
          subst hs'
          have a := sFrom_bd h k (by omega)
          have b := sOff_bd h k (by omega)
          have c := h.2.2.1 k (by omega)
          dsimp only
          omega
      · exact ih (by omega) s hs'
  intro s hs
  unfold segs at hs
  rw [List.mem_append] at hs
  rcases hs with hs | hs
  · exact this _ (Nat.le_refl _) s hs
  · simp at hs
    subst hs
    have a := sFrom_bd h l.length (Nat.le_refl _)
    have b := sOff_bd h l.length (Nat.le_refl _)
    dsimp only
    omega
theorem t3_at (S : List T3) (k : Nat) (hk : k < S.length) : S[k] = (tA S k, tB S k, tC S k) := by simp [tA, tB, tC, hk]
theorem seg_at {S : List T3} (h : SegOk S) (k : Nat) (hk : k < S.length) : 0 ≤ tA S k ∧ tA S k ≤ 120968639 ∧ 0 ≤ tB S k ∧ tB S k ≤ 120968640 ∧ -840 ≤ tC S k ∧ tC S k ≤ 840 := by
  have := h S[k] (List.getElem_mem hk)
  rwa [t3_at S k hk] at this
theorem drop_at (S : List T3) (k : Nat) (hk : k < S.length) : S.drop k = (tA S k, tB S k, tC S k) :: S.drop (k + 1) := by
  rw [List.drop_eq_getElem_cons hk, t3_at S k hk]
theorem segs_len (o : Int) (l : List (Int × Int)) : (segs o l).length ≤ l.length + 1 := by
  have := sgTo_len o l l.length
  simp [segs]; omega

/-- the instants of a local minute, in the segments -/
def instTo (S : List T3) (loc : Int) : Nat → List Int
  | 0 => []
  | k + 1 => if tA S k ≤ loc - tC S k ∧ loc - tC S k < tB S k then instTo S loc k ++ [loc - tC S k] else instTo S loc k
theorem inst_yes {S : List T3} {loc : Int} {k : Nat} (h : tA S k ≤ loc - tC S k ∧ loc - tC S k < tB S k) : instTo S loc (k + 1) = instTo S loc k ++ [loc - tC S k] := if_pos h
theorem inst_no {S : List T3} {loc : Int} {k : Nat} (h : ¬ (tA S k ≤ loc - tC S k ∧ loc - tC S k < tB S k)) : instTo S loc (k + 1) = instTo S loc k := if_neg h
theorem inst_len (S : List T3) (loc : Int) : ∀ k, (instTo S loc k).length ≤ k
  | 0 => by simp [instTo]
  | k + 1 => by
    have := inst_len S loc k
    simp only [instTo]
    split
    · simp; omega
    · omega
def instL (o : Int) (l : List (Int × Int)) (loc : Int) : List Int := if zerr o l = 0 ∧ -840 ≤ loc ∧ loc ≤ 120969479 then instTo (segs o l) loc (segs o l).length else []
def firstL : List T3 → Int → Int
  | [], _ => 120968640
  | s :: t, loc => if max s.1 (loc - s.2.2) < s.2.1 then max s.1 (loc - s.2.2) else firstL t loc
def firstV (o : Int) (l : List (Int × Int)) (loc : Int) : Int := if 120969479 < loc then 120968640 else firstL (segs o l) (max loc (-840))
def beginV (o : Int) (l : List (Int × Int)) (day : Int) : Int := if day = 0 then 0 else if day = 84006 then 120968640 else firstV o l (day * 1440)
def dayL : List T3 → Int → Int → Int
  | [], _, acc => acc
  | s :: r, t, acc => if t < s.1 then acc else dayL r t (max acc (min t (s.2.1 - 1) + s.2.2))
def dayV (o : Int) (l : List (Int × Int)) (t : Int) : Int := min (dayL (segs o l) t 0 / 1440) 84005

def InstPost (o : Int) (l : List (Int × Int)) (loc : Int) (w : World) (e : Ending) (w' : World) : Prop :=
  ∃ A c, e = .returned (.tuple #[.slice A (instL o l loc).length c, .int .i64 (zerr o l)]) ∧ Below w.heap.size w w' ∧ RdI w' w'.heap.size A (instL o l loc)
theorem inst_nil {o : Int} {l : List (Int × Int)} {loc : Int} {w w' : World} {k : Int} (hz : zerr o l = k) (h : instL o l loc = []) (hb : Below w.heap.size w w') : InstPost o l loc w (.returned (.tuple #[.slice none 0 0, .int .i64 k])) w' :=
  ⟨none, 0, by rw [h, hz]; rfl, hb, by rw [h]; exact Rd.none_⟩
theorem infoInt : (Try.prog.info? 3).map (fun i => (i.zero, i.size, i.bytes)) = some (some (.int .i64 0), 1, 8) := by kernel_rfl
def OwnI (w : World) (base : Nat) (A : Option Addr) (c : Nat) (s : List Int) : Prop := w.ownsRow base 3 1 (.slice A s.length c) s.length (s.map (Value.int .i64))
theorem OwnI.alloc {w : World} {base : Nat} {A : Option Addr} {c : Nat} {s : List Int} (h : OwnI w base A c s) (o : Obj) : OwnI (w.alloc o) base A c s := World.ownsRow.alloc h o
theorem ownI_snoc {w : World} {base : Nat} {A : Option Addr} {c : Nat} {s : List Int} {x : Int} (h : w.ownsRow base 3 1 (.slice A (s.length + 1) c) (s.length + 1) (s.map (Value.int .i64) ++ [.int .i64 x])) : OwnI w base A c (s ++ [x]) := by
  unfold OwnI
  simpa using h

section
variable (A : Option Addr) (c B : Nat) (o : Int) (l : List (Int × Int)) (w : World) (hr : RdP w B A l) (hB : B ≤ w.heap.size) (hl : l.length ≤ 9223372036854775807)
include hr hB hl
set_option maxHeartbeats 1600000 in
theorem cfirst_any (hV : ZVal o l) (loc : Int) : Calls Try.prog 46 #[.agg #[.int .i64 o, .slice A l.length c], .int .i64 loc] w (RetI (firstV o l loc) w) := by
  have HSg : Hid (∀ W, Below w.heap.size w W → Calls Try.prog 42 #[.agg #[.int .i64 o, .slice A l.length c]] W (SegsPost o l W)) := Lib.hid (fun W hW => segments_any A c B o l W (hr.below (hW.mono hB)) (Nat.le_trans hB hW.size) hV.1)
  have HA : Hid (∀ ob, Below w.heap.size w (w.alloc ob)) := Lib.hid (fun ob => (Below.refl _ _).alloc (Nat.le_refl _) ob)
  clear hr
  by_cases hbig : 120969479 < loc
  · have HF : Hid (firstV o l loc = 120968640) := Lib.hid (if_pos hbig)
    have d1 : decide (120969479 < loc) = true := by simpa using hbig
    clear hV HSg
    go_enter Try.func46, Try.ntmps46
    go_wp2
    go_ret
    exact ⟨ret_int HF.out.symm, HA.out _⟩
  · have HF : Hid (firstV o l loc = firstL (segs o l) (max loc (-840))) := Lib.hid (if_neg hbig)
    have d1 : decide (120969479 < loc) = false := by simpa using hbig
    obtain ⟨m, hm, hm0, hm1⟩ : ∃ m : Int, (if loc < -840 then (-840 : Int) else loc) = m ∧ m = max loc (-840) ∧ -840 ≤ m ∧ m ≤ 120969479 := ⟨_, rfl, by split <;> omega, by split <;> omega, by split <;> omega⟩
    rw [← hm0] at HF
    have HOK := Lib.hid (segs_ok hV)
    have h64 := hV.1
    have hsl := segs_len o l
    clear hV hm0
    go_enter Try.func46, Try.ntmps46
    go_wp2_with fail
    clear hm
    refine (HSg.out _ (HA.out _)).mono ?_
    rintro e w2 ⟨A2, c2, rfl, hb2, hr2⟩
    have HB2 := Lib.hid ((HA.out _).trans (hb2.mono (by simp)))
    have HR2 := Lib.hid hr2
    clear hb2 hr2 HSg
    generalize segs o l = S at *
    go_wp2
    go_loopw [15] (fun i wr => ∃ (k : Nat), k ≤ S.length ∧ i = .int .i64 k ∧ firstL S m = firstL (S.drop k) m ∧ Below w2.heap.size w2 wr) (fun i _ => S.length - (intOf i).toNat)
    case atStart => exact ⟨0, Nat.zero_le _, rfl, rfl, Below.refl _ _⟩
    case round =>
      obtain ⟨k, hk, rfl, hfs, hbl⟩ := hrel
      have HFS := Lib.hid hfs
      have HBL := Lib.hid hbl
      have hsz := hbl.size
      clear hfs hbl
      by_cases hlt : k < S.length
      · obtain ⟨b, off, rfl, hb, hc1, hc2, hc3⟩ := HR2.out.all (by omega)
        have e1 : wr.cell? ⟨b, off + k * 3, none⟩ = some (.int .i64 (tA S k)) := (HBL.out.cell hb).trans (hc1 k hlt)
        have e2 : wr.cell? ⟨b, off + k * 3 + 1, none⟩ = some (.int .i64 (tB S k)) := (HBL.out.cell hb).trans (hc2 k hlt)
        have e3 : wr.cell? ⟨b, off + k * 3 + 2, none⟩ = some (.int .i64 (tC S k)) := (HBL.out.cell hb).trans (hc3 k hlt)
        have hsb := seg_at HOK.out k hlt
        clear hc1 hc2 hc3
        have HS : Hid (firstL S m = if max (tA S k) (m - tC S k) < tB S k then max (tA S k) (m - tC S k) else firstL (S.drop (k + 1)) m) := Lib.hid (by rw [HFS.out, drop_at S k hlt]; rfl)
        obtain ⟨mx, hmx, hmx0⟩ : ∃ mx : Int, (if tA S k < m - tC S k then m - tC S k else tA S k) = mx ∧ mx = max (tA S k) (m - tC S k) := ⟨_, rfl, by split <;> omega⟩
        rw [← hmx0] at HS
        by_cases hc : mx < tB S k
        · have HS2 : Hid (firstV o l loc = mx) := Lib.hid (by rw [HF.out, HS.out, if_pos hc])
          clear hmx0
          go_wp2
          go_ret
          exact ⟨ret_int HS2.out.symm, HB2.out.trans ((HBL.out.alloc hsz _).mono HB2.out.size)⟩
        · have HS2 : Hid (firstL S m = firstL (S.drop (k + 1)) m) := Lib.hid (by rw [HS.out, if_neg hc])
          clear hmx0
          go_wp2
          go_roundw
          case rel => exact ⟨k + 1, by omega, by go_num, HS2.out, HBL.out.alloc hsz _⟩
          case measure => simp [intOf]; omega
      · have hkl : k = S.length := by omega
        subst hkl
        have HS2 : Hid (firstV o l loc = 120968640) := Lib.hid (by rw [HF.out, HFS.out, List.drop_length]; rfl)
        go_wp2
        go_ret
        exact ⟨ret_int HS2.out.symm, HB2.out.trans (HBL.out.mono HB2.out.size)⟩

noncomputable def firstR (o : Int) (l : List (Int × Int)) (loc : Int) : Int := if zerr o l = 0 then firstV o l loc else 0
set_option maxHeartbeats 800000 in
theorem first_any (loc : Int) : Calls Try.prog 33 #[.agg #[.int .i64 o, .slice A l.length c], .int .i64 loc] w (RetII (firstR o l loc) (zerr o l) w) := by
  have HC : Hid (∀ W, Below w.heap.size w W → Calls Try.prog 32 #[.agg #[.int .i64 o, .slice A l.length c]] W (RetI (zerr o l) W)) := Lib.hid (fun W hW => cvalid_any A c B o l W (hr.below (hW.mono hB)) (Nat.le_trans hB hW.size) hl)
  have HF : Hid (ZVal o l → ∀ W, Below w.heap.size w W → Calls Try.prog 46 #[.agg #[.int .i64 o, .slice A l.length c], .int .i64 loc] W (RetI (firstV o l loc) W)) := Lib.hid (fun hV W hW => cfirst_any A c B o l W (hr.below (hW.mono hB)) (Nat.le_trans hB hW.size) hl hV loc)
  have HA : Hid (∀ ob, Below w.heap.size w (w.alloc ob)) := Lib.hid (fun ob => (Below.refl _ _).alloc (Nat.le_refl _) ob)
  clear hr
  by_cases hz : zerr o l = 0
  · have HV := Lib.hid (zval_of hz)
    have HE : Hid (firstR o l loc = firstV o l loc) := Lib.hid (if_pos hz)
    have HZ := Lib.hid hz
    rw [hz] at HC
    clear hz
    go_enter Try.func33, Try.ntmps33
    go_wp2_with fail
    refine (HC.out _ (HA.out _)).mono ?_
    rintro e w1 ⟨rfl, hb1⟩
    have b0 : w1.cell? ⟨w.heap.size, 0, none⟩ = some (.int .i64 o) := (hb1.cell (by simp)).trans ((Blk.new _ _ _).cell 0)
    have b1 : w1.cell? ⟨w.heap.size, 1, none⟩ = some (.slice A l.length c) := (hb1.cell (by simp)).trans ((Blk.new _ _ _).cell 1)
    have HB1 := Lib.hid ((HA.out _).trans (hb1.mono (by simp)))
    clear hb1
    go_wp2_with fail
    refine (HF.out HV.out _ HB1.out).mono ?_
    rintro e w2 ⟨rfl, hb2⟩
    have HB2 := Lib.hid (HB1.out.trans (hb2.mono HB1.out.size))
    clear hb2 b0 b1
    go_wp2
    go_ret2
    exact retII_of HE.out.symm HZ.out.symm HB2.out
  · have HE : Hid (firstR o l loc = 0) := Lib.hid (if_neg hz)
    have hz' : (zerr o l != 0) = true := by simpa using hz
    clear hz
    generalize zerr o l = ze at *
    go_enter Try.func33, Try.ntmps33
    go_wp2_with fail
    refine (HC.out _ (HA.out _)).mono ?_
    rintro e w1 ⟨rfl, hb1⟩
    have HB1 := Lib.hid ((HA.out _).trans (hb1.mono (by simp)))
    clear hb1
    go_wp2
    go_ret2
    exact retII_of HE.out.symm rfl HB1.out

noncomputable def begE (o : Int) (l : List (Int × Int)) (day : Int) : Int := if zerr o l = 0 then (if 0 ≤ day ∧ day ≤ 84006 then 0 else 2) else zerr o l
noncomputable def begR (o : Int) (l : List (Int × Int)) (day : Int) : Int := if zerr o l = 0 ∧ 0 ≤ day ∧ day ≤ 84006 then beginV o l day else 0
noncomputable def dayR (o : Int) (l : List (Int × Int)) (t : Int) : Int := if offE o l t = 0 then dayV o l t else 0
set_option maxHeartbeats 1600000 in
theorem day_any (t : Int) : Calls Try.prog 29 #[.agg #[.int .i64 o, .slice A l.length c], .int .i64 t] w (RetII (dayR o l t) (offE o l t) w) := by
  have HC : Hid (∀ W, Below w.heap.size w W → Calls Try.prog 32 #[.agg #[.int .i64 o, .slice A l.length c]] W (RetI (zerr o l) W)) := Lib.hid (fun W hW => cvalid_any A c B o l W (hr.below (hW.mono hB)) (Nat.le_trans hB hW.size) hl)
  have HSg : Hid (l.length ≤ 64 → ∀ W, Below w.heap.size w W → Calls Try.prog 42 #[.agg #[.int .i64 o, .slice A l.length c]] W (SegsPost o l W)) := Lib.hid (fun h64 W hW => segments_any A c B o l W (hr.below (hW.mono hB)) (Nat.le_trans hB hW.size) h64)
  have HA : Hid (∀ ob, Below w.heap.size w (w.alloc ob)) := Lib.hid (fun ob => (Below.refl _ _).alloc (Nat.le_refl _) ob)
  clear hr
  by_cases hz : zerr o l = 0
  · have hV := zval_of hz
    rw [hz] at HC
    by_cases ht : instOk t
    · have HE := Lib.hid (off_ok hz ht).1
      have HR : Hid (dayR o l t = min (dayL (segs o l) t 0 / 1440) 84005) := Lib.hid (if_pos (off_ok hz ht).1)
      obtain ⟨t0, t1⟩ := ht
      have d1 : decide (t < 0) = false := by simp; omega
      have d2 : decide (120968639 < t) = false := by simp; omega
      have HOK := Lib.hid (segs_ok hV)
      have h64 := hV.1
      have hsl := segs_len o l
      clear hz hV
      go_enter Try.func29, Try.ntmps29
      go_wp2_with fail
      refine (HC.out _ (HA.out _)).mono ?_
      rintro e w1 ⟨rfl, hb1⟩
      have b0 : w1.cell? ⟨w.heap.size, 0, none⟩ = some (.int .i64 o) := (hb1.cell (by simp)).trans ((Blk.new _ _ _).cell 0)
      have b1 : w1.cell? ⟨w.heap.size, 1, none⟩ = some (.slice A l.length c) := (hb1.cell (by simp)).trans ((Blk.new _ _ _).cell 1)
      have HB1 := Lib.hid ((HA.out _).trans (hb1.mono (by simp)))
      clear hb1
      go_wp2_with fail
      refine (HSg.out h64 _ HB1.out).mono ?_
      rintro e w2 ⟨A2, c2, rfl, hb2, hr2⟩
      have HB2 := Lib.hid (HB1.out.trans (hb2.mono HB1.out.size))
      have HR2 := Lib.hid hr2
      clear hb2 hr2 b0 b1 HSg HC
      generalize segs o l = S at *
      go_wp2
      go_loopw [7, 24] (fun g i wr => ∃ (k : Nat) (acc : Int), k ≤ S.length ∧ i = .int .i64 k ∧ g = .int .i64 acc ∧ 0 ≤ acc ∧ acc ≤ 120969479 ∧ dayL S t 0 = dayL (S.drop k) t acc ∧ Below w2.heap.size w2 wr) (fun _ i _ => S.length - (intOf i).toNat)
      case atStart => exact ⟨0, 0, Nat.zero_le _, rfl, rfl, by omega, by omega, rfl, Below.refl _ _⟩
      case round =>
        obtain ⟨k, acc, hk, rfl, rfl, ha0, ha1, hfs, hbl⟩ := hrel
        have HFS := Lib.hid hfs
        have HBL := Lib.hid hbl
        have hsz := hbl.size
        clear hfs hbl
        by_cases hlt : k < S.length
        · obtain ⟨b, off, rfl, hb, hc1, hc2, hc3⟩ := HR2.out.all (by omega)
          have e1 : wr.cell? ⟨b, off + k * 3, none⟩ = some (.int .i64 (tA S k)) := (HBL.out.cell hb).trans (hc1 k hlt)
          have e2 : wr.cell? ⟨b, off + k * 3 + 1, none⟩ = some (.int .i64 (tB S k)) := (HBL.out.cell hb).trans (hc2 k hlt)
          have e3 : wr.cell? ⟨b, off + k * 3 + 2, none⟩ = some (.int .i64 (tC S k)) := (HBL.out.cell hb).trans (hc3 k hlt)
          have hsb := seg_at HOK.out k hlt
          clear hc1 hc2 hc3
          have HS : Hid (dayL S t 0 = if t < tA S k then acc else dayL (S.drop (k + 1)) t (max acc (min t (tB S k - 1) + tC S k))) := Lib.hid (by rw [HFS.out, drop_at S k hlt]; rfl)
          by_cases hc : t < tA S k
          · have HS2 : Hid (dayR o l t = min (acc / 1440) 84005) := Lib.hid (by rw [HR.out, HS.out, if_pos hc])
            obtain ⟨mn, hmn, hmn0⟩ : ∃ mn : Int, (if 84005 < acc / 1440 then (84005 : Int) else acc / 1440) = mn ∧ mn = min (acc / 1440) 84005 := ⟨_, rfl, by split <;> omega⟩
            rw [← hmn0] at HS2
            clear hmn0
            go_wp2
            go_ret2
            exact retII_of HS2.out.symm HE.out.symm (HB2.out.trans ((HBL.out.alloc hsz _).mono HB2.out.size))
          · obtain ⟨m1, hm1, hm1'⟩ : ∃ m1 : Int, (if tB S k - 1 < t then tB S k - 1 else t) = m1 ∧ m1 = min t (tB S k - 1) := ⟨_, rfl, by split <;> omega⟩
            obtain ⟨m2, hm2, hm2'⟩ : ∃ m2 : Int, (if acc < m1 + tC S k then m1 + tC S k else acc) = m2 ∧ m2 = max acc (m1 + tC S k) := ⟨_, rfl, by split <;> omega⟩
            have HS2 : Hid (dayL S t 0 = dayL (S.drop (k + 1)) t m2) := Lib.hid (by rw [HS.out, if_neg hc, hm2', hm1'])
            have hmb : 0 ≤ m2 ∧ m2 ≤ 120969479 := by omega
            have hm1b : -1 ≤ m1 ∧ m1 ≤ 120968639 := by omega
            clear hm1' hm2'
            go_wp2
            go_roundw
            case rel => exact ⟨k + 1, m2, by omega, by go_num, rfl, hmb.1, hmb.2, HS2.out, HBL.out.alloc hsz _⟩
            case measure => simp [intOf]; omega
        · have hkl : k = S.length := by omega
          subst hkl
          have HS2 : Hid (dayR o l t = min (acc / 1440) 84005) := Lib.hid (by rw [HR.out, HFS.out, List.drop_length]; rfl)
          obtain ⟨mn, hmn, hmn0⟩ : ∃ mn : Int, (if 84005 < acc / 1440 then (84005 : Int) else acc / 1440) = mn ∧ mn = min (acc / 1440) 84005 := ⟨_, rfl, by split <;> omega⟩
          rw [← hmn0] at HS2
          clear hmn0
          go_wp2
          go_ret2
          exact retII_of HS2.out.symm HE.out.symm (HB2.out.trans (HBL.out.mono HB2.out.size))
    · have HE := Lib.hid (off_range hz ht).1
      have HR : Hid (dayR o l t = 0) := Lib.hid (if_neg (by rw [(off_range hz ht).1]; omega))
      clear hz hV HSg
      rcases bool_cases (t < 0) with d1 | d1
      · go_enter Try.func29, Try.ntmps29
        go_wp2_with fail
        refine (HC.out _ (HA.out _)).mono ?_
        rintro e w1 ⟨rfl, hb1⟩
        have HB1 := Lib.hid ((HA.out _).trans (hb1.mono (by simp)))
        clear hb1
        go_wp2
        go_ret2
        exact retII_of HR.out.symm HE.out.symm HB1.out
      · have d2 : decide (120968639 < t) = true := by unfold instOk at ht; simp at d1; simp; omega
        go_enter Try.func29, Try.ntmps29
        go_wp2_with fail
        refine (HC.out _ (HA.out _)).mono ?_
        rintro e w1 ⟨rfl, hb1⟩
        have HB1 := Lib.hid ((HA.out _).trans (hb1.mono (by simp)))
        clear hb1
        go_wp2
        go_ret2
        exact retII_of HR.out.symm HE.out.symm HB1.out
  · have HE := Lib.hid (off_err (t := t) hz).1
    have HR : Hid (dayR o l t = 0) := Lib.hid (if_neg (by rw [(off_err (t := t) hz).1]; exact hz))
    have hz' : (zerr o l != 0) = true := by simpa using hz
    clear hz HSg
    generalize zerr o l = ze at *
    go_enter Try.func29, Try.ntmps29
    go_wp2_with fail
    refine (HC.out _ (HA.out _)).mono ?_
    rintro e w1 ⟨rfl, hb1⟩
    have HB1 := Lib.hid ((HA.out _).trans (hb1.mono (by simp)))
    clear hb1
    go_wp2
    go_ret2
    exact retII_of HR.out.symm HE.out.symm HB1.out
end
end Go.Proofs.Ytagkdkkpgcolkaa

