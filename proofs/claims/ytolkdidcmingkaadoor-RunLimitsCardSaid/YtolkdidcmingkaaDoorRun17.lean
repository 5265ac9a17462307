/-
  Chapter 40: the walk of the law RunLimits.
-/
import Derived.Test.YtolkdidcmingkaaDoorRun12
import Derived.Test.YtolkdidcmingkaaDoorOpen
import Derived.OwnWalk
import Derived.Laws.OwnMore
namespace Go.Proofs.YtolkdidcmingkaaDoor
open Go.RowKit
set_option linter.unusedVariables false
set_option linter.unusedSimpArgs false

/-- a block of numbers of which the first k are filled -/
def pc (f : Nat → Int) (m k : Nat) : Array Value := ((List.range m).map fun i => Value.int .i64 (if i < k then f i else 0)).toArray
theorem pc_size (f : Nat → Int) (m k : Nat) : (pc f m k).size = m := by simp [pc]
theorem pc_get (f : Nat → Int) (m k i : Nat) (h : i < m) : (pc f m k)[i]? = some (.int .i64 (if i < k then f i else 0)) := by simp [pc, h]
theorem pc_set (f : Nat → Int) (m k : Nat) : (pc f m k).setIfInBounds k (.int .i64 (f k)) = pc f m (k + 1) := by
  apply Array.ext_getElem?
  intro i
  rw [Array.getElem?_setIfInBounds, pc_size]
  by_cases hi : i < m
  · rw [pc_get _ _ _ _ hi, pc_get _ _ _ _ hi]
    by_cases e : k = i
    · subst e; simp [hi]
    · rw [if_neg e]
      by_cases h2 : i < k
      · rw [if_pos h2, if_pos (by omega)]
      · rw [if_neg h2, if_neg (by omega)]
  · have h1 : (pc f m k)[i]? = none := Array.getElem?_eq_none (by rw [pc_size]; omega)
    have h2 : (pc f m (k + 1))[i]? = none := Array.getElem?_eq_none (by rw [pc_size]; omega)
    rw [h1, h2]
    split <;> simp <;> omega
theorem made_pc (f : Nat → Int) (m : Nat) : madeCells #[.int .i64 0] (m * 1) = pc f m 0 := by
  apply Array.ext'
  rw [toList_madeCells_one]
  apply List.ext_getElem? 
  intro i
  simp [pc, List.getElem?_replicate, List.getElem?_map]
  by_cases h : i < m <;> simp [h]
theorem run_make_rowN {P : Program} (t e : TypeId) (i : TypeInfo) (z : Value) (ht : P.underlying t = some (.slice e)) (hi : P.info? e = some i) (hz : i.zero = some z)
    (kl kc : IntKind) (n c : Nat) (hnc : n ≤ c) (hbytes : i.bytes * c ≤ 281474976710656) (h63 : c ≤ 9223372036854775807) (w : World) :
    (Instr.makeSlice t (.int kl (n : Int)) (.int kc (c : Int))).run P w = .ok (.slice (some ⟨w.heap.size, 0, none⟩) n c) (w.alloc (.cells (madeCells z.cells (c * i.size)) e)) := by
  have hb : (i.bytes : Int) * (c : Int) ≤ 281474976710656 := by
    have h : ((i.bytes * c : Nat) : Int) ≤ 281474976710656 := by omega
    rwa [Int.natCast_mul] at h
  have hr := run_make (P := P) w t e i z ht hi hz kl kc n c (by omega) (by omega) hb (by omega)
  simp only [Int.toNat_natCast] at hr
  exact hr
theorem make_ints (f : Nat → Int) (m : Nat) (hm : m ≤ 1000000) (W : World) :
    (Instr.makeSlice 23 (.int .i64 (m : Int)) (.int .i64 (m : Int))).run Tryd.prog W = .ok (.slice (some ⟨W.heap.size, 0, none⟩) m m) (W.alloc (.cells (pc f m 0) 3)) := by
  obtain ⟨i0, hi, hz0, hz1, hz2⟩ := info_parts infoI
  have := run_make_rowN (P := Tryd.prog) 23 3 i0 (.int .i64 0) Tryd.underlying23 hi hz0 .i64 .i64 m m (Nat.le_refl _) (by rw [hz2]; omega) (by omega) W
  rw [this, hz1]
  show Result.ok _ (W.alloc (.cells (madeCells #[.int .i64 0] (m * 1)) 3)) = _
  rw [made_pc f m]


def upto (m : Nat) : List Int := (List.range m).map fun (i : Nat) => (i : Int) + 1
theorem upto_len (m : Nat) : (upto m).length = m := by simp [upto]
theorem upto_at (m i : Nat) (h : i < m) : at1 (upto m) i = (i : Int) + 1 := by simp [upto, at1, h]
theorem asc_upto {E : List Int} (h1 : 1 ≤ E.length) (hE : ∀ i, i < E.length → at1 E i = (i : Int) + 1) (h : E.length ≤ 4096) : ascB E = true := by
  refine asc_t ⟨h1, h, fun i hi => ?_⟩
  have h2 := hE i hi
  refine ⟨by omega, by omega, fun h0 => ?_⟩
  have h3 := hE (i - 1) (by omega)
  omega
theorem not_asc {E : List Int} (h : ¬ E.length ≤ 4096) : ascB E = false := asc_f (fun ha => h ha.2.1)
theorem rd_pc {W : World} {g : Nat} {E : List Int} (hE : ∀ i, i < E.length → at1 E i = (i : Int) + 1) (hk : Blk W g 3 (pc (fun i => (i : Int) + 1) E.length E.length)) : RdI W W.heap.size (some ⟨g, 0, none⟩) E := by
  intro _
  refine ⟨g, 0, rfl, hk.lt, fun i j hi hj => ?_⟩
  have hj0 : j = 0 := by omega
  subst hj0
  rw [Nat.zero_add, Nat.mul_one, Nat.add_zero, hk.cell i, pc_get _ _ _ _ hi, if_pos hi]
  show some (Value.int .i64 ((i : Int) + 1)) = some (Value.int .i64 (at1 E i))
  rw [hE i hi]
theorem pc_store {g k m : Nat} {w : World} (hk : Blk w g 3 (pc (fun i => (i : Int) + 1) m k)) : Blk (w.setCell ⟨g, k, none⟩ (.int .i64 ((k : Int) + 1))) g 3 (pc (fun i => (i : Int) + 1) m (k + 1)) := by
  have := hk.set_ k (.int .i64 ((k : Int) + 1))
  rwa [pc_set (fun i => (i : Int) + 1) m k] at this
theorem st_first (E : List Int) : stE 1 [] (0, 0, 0) 1 E (0, 0, 0) = if ascB E = true then 0 else 2 := by
  unfold stE
  have h1 : validB 1 [] (0, 0, 0) = true := by unfold validB; rw [if_pos rfl]; rfl
  have h2 : formB 1 E.length (eqC (0, 0, 0) C0) = true := rfl
  rw [h1, h2]
  rfl

set_option maxHeartbeats 6400000 in
set_option maxRecDepth 100000 in
theorem runLimits_walk (n : Int) (w : World) (hT : Tab w) :
    Calls Tryd.prog 3 #[.int .i64 n] w (RetB true w) := by
  have HT := Lib.hid hT
  clear hT
  have hq0 : 0 ≤ n % 3 := by omega
  have hq3 : n % 3 < 3 := by omega
  obtain ⟨E, hE1, hE2⟩ : ∃ E : List Int, 4095 + n % 3 = (E.length : Int) ∧ ∀ i, i < E.length → at1 E i = (i : Int) + 1 := by
    refine ⟨upto (4095 + n % 3).toNat, ?_, ?_⟩
    · rw [upto_len]; omega
    · intro i hi; rw [upto_len] at hi; exact upto_at _ _ hi
  have hlo : 4095 ≤ E.length := by omega
  have hhi : E.length ≤ 4097 := by omega
  have HE2 := Lib.hid hE2
  have HST := Lib.hid (st_first E)
  have HVB : Hid (validB 2 E (0, 0, 0) = ascB E) := Lib.hid (by unfold validB; rw [if_neg (by decide), if_pos rfl]; show (ascB E && true) = _; simp)
  have HAY : Hid (E.length ≤ 4096 → ascB E = true) := Lib.hid (asc_upto (by omega) hE2)
  have HAN : Hid (¬ E.length ≤ 4096 → ascB E = false) := Lib.hid not_asc
  have HAL : Hid (∀ o, Below w.heap.size w (w.alloc o)) := Lib.hid (fun o => (Below.refl _ _).alloc (Nat.le_refl _) o)
  have hmk := fun W => make_ints (fun i => (i : Int) + 1) E.length (by omega) W
  clear hE2
  go_enter Tryd.func3, Tryd.ntmps3
  go_wp2_with fail
  refine (mod_any n 3 _ (by omega) (by omega)).mono ?_
  rintro e w3 ⟨rfl, rfl⟩
  generalize n % 3 = q at *
  go_upto_region 2 with (fail)
  clear hE1
  go_wp2
  clear hmk
  go_loopw [5] (fun i wr => ∃ k : Nat, k ≤ E.length ∧ i = .int .i64 k ∧ Below w.heap.size w wr ∧ Blk wr w.heap.size 3 (pc (fun i => (i : Int) + 1) E.length k)) (fun i _ => E.length - (intOf i).toNat)
  case atStart => exact ⟨0, Nat.zero_le _, rfl, HAL.out _, Blk.new _ _ _⟩
  case round =>
    obtain ⟨k, hk, rfl, hbl, hbk⟩ := hrel
    have HBL := Lib.hid hbl
    have HBK := Lib.hid hbk
    have hs := hbk.lt
    clear hbl hbk
    by_cases hlt : k < E.length
    · have c1 : wr.cell? ⟨w.heap.size, k, none⟩ = some (.int .i64 0) := by rw [HBK.out.cell k, pc_get _ _ _ _ hlt, if_neg (by omega)]
      have c2 : wr.frozen? ⟨w.heap.size, k, none⟩ = false := HBK.out.frozen k
      have HST1 := Lib.hid (pc_store HBK.out)
      have HBL1 : Hid (Below w.heap.size w (wr.setCell ⟨w.heap.size, k, none⟩ (.int .i64 ((k : Int) + 1)))) := Lib.hid (below_only HBL.out ((Only.refl w.heap.size wr).setCell (p := ⟨w.heap.size, k, none⟩) (.inl rfl) _) (Nat.le_refl _))
      go_wp2
      go_roundw
      case rel => exact ⟨k + 1, by omega, by go_num, HBL1.out, HST1.out⟩
      case measure => simp [intOf]; omega
    · obtain rfl : k = E.length := by omega
      have hrd := rd_pc HE2.out HBK.out
      have hTr := HT.out.below HBL.out HT.out.lt
      have HSTEP := Lib.hid (step_any 1 none 0 [] 0 0 0 1 (some ⟨w.heap.size, 0, none⟩) E.length E 0 0 0 wr hTr Rd.none_ (by simp) hrd (by omega))
      have HVAL : Hid (∀ W, Below wr.heap.size wr W → Calls Tryd.prog 11 #[.agg #[.int .i64 2, .slice (some ⟨w.heap.size, 0, none⟩) E.length E.length, .int .i64 0, .int .i64 0, .int .i64 0]] W (RetB (validB 2 E (0, 0, 0)) W)) := Lib.hid (fun W h => rvalid_any 2 _ E.length wr.heap.size E 0 0 0 W (hrd.below h) h.size (by omega))
      have HTR := Lib.hid hTr
      rw [HVB.out] at HVAL
      clear hrd hTr
      by_cases h4 : E.length ≤ 4096
      · have hA := HAY.out h4
        rw [hA] at HVAL
        rw [hA, if_pos rfl] at HST
        clear hA HAY HAN
        have HS1 : Hid (stS 1 [] (0, 0, 0) 1 E (0, 0, 0) = 2) := Lib.hid (by unfold stS; rw [if_pos HST.out]; rfl)
        have HS2 : Hid (stL 1 [] (0, 0, 0) 1 E (0, 0, 0) = E) := Lib.hid (by unfold stL; rw [if_pos HST.out, if_pos rfl])
        have HSTEP : Hid (Calls Tryd.prog 10 #[.agg #[.int .i64 1, .slice none 0 0, .int .i64 0, .int .i64 0, .int .i64 0], .agg #[.int .i64 1, .slice (some ⟨w.heap.size, 0, none⟩) E.length E.length, .int .i64 0, .int .i64 0, .int .i64 0]] wr (SPost 2 E (stC 1 [] (0, 0, 0) 1 E (0, 0, 0)) 0 wr)) := Lib.hid (by have := HSTEP.out; unfold StepPost at this; rwa [HST.out, HS1.out, HS2.out] at this)
        have d1 : decide ((E.length : Int) ≤ 4096) = true := by simp; omega
        have d2 : decide (4096 < (E.length : Int)) = false := by simp; omega
        have d1' : decide (E.length ≤ 4096) = true := by simp; omega
        have d2' : decide (4096 < E.length) = false := by simp; omega
        have d3 : ((E.length : Int) == (E.length : Int)) = true := by simp
        go_wp2_with fail
        refine HSTEP.out.mono ?_
        rintro e w4 ⟨A4, n4, rfl, hb4, -, -⟩
        generalize stC 1 [] (0, 0, 0) 1 E (0, 0, 0) = c4 at *
        have HB4 := Lib.hid hb4
        clear hb4
        go_wp2_with fail
        refine (HVAL.out _ (HB4.out.alloc HB4.out.size _)).mono ?_
        rintro e w5 ⟨rfl, hb5⟩
        have HX := Lib.hid ((Blk.new w4 27 #[.int .i64 2, .slice A4 E.length n4, .int .i64 c4.1, .int .i64 c4.2.1, .int .i64 c4.2.2]).below hb5 (by simp))
        have HB5 := Lib.hid ((HB4.out.alloc HB4.out.size _).trans (hb5.mono (by have := HB4.out.size; simp; omega)))
        clear hb5
        have x0 := HX.out.cell 0
        have x1 := HX.out.cell 1
        simp at x0 x1
        go_wp2_with fail
        refine (awake_any _ (HTR.out.calc_ HB5.out)).mono ?_
        rintro e w8 ⟨rfl, hb8⟩
        have HB8 := Lib.hid (HB5.out.trans (hb8.mono HB5.out.size))
        clear hb8
        go_wp2
        go_ret
        exact ⟨rfl, HBL.out.trans (HB8.out.mono HBL.out.size)⟩
      · have hA := HAN.out h4
        rw [hA] at HVAL
        rw [hA, if_neg (by decide)] at HST
        clear hA HAY HAN
        have HS1 : Hid (stS 1 [] (0, 0, 0) 1 E (0, 0, 0) = 0) := Lib.hid (by unfold stS; rw [if_neg (by rw [HST.out]; decide)])
        have HSTEP : Hid (Calls Tryd.prog 10 #[.agg #[.int .i64 1, .slice none 0 0, .int .i64 0, .int .i64 0, .int .i64 0], .agg #[.int .i64 1, .slice (some ⟨w.heap.size, 0, none⟩) E.length E.length, .int .i64 0, .int .i64 0, .int .i64 0]] wr (SPost 0 (stL 1 [] (0, 0, 0) 1 E (0, 0, 0)) (stC 1 [] (0, 0, 0) 1 E (0, 0, 0)) 2 wr)) := Lib.hid (by have := HSTEP.out; unfold StepPost at this; rwa [HST.out, HS1.out] at this)
        have d1 : decide ((E.length : Int) ≤ 4096) = false := by simp; omega
        have d2 : decide (4096 < (E.length : Int)) = true := by simp; omega
        have d1' : decide (E.length ≤ 4096) = false := by simp; omega
        have d2' : decide (4096 < E.length) = true := by simp; omega
        go_wp2_with fail
        refine HSTEP.out.mono ?_
        rintro e w4 ⟨A4, n4, rfl, hb4, -, -⟩
        generalize stC 1 [] (0, 0, 0) 1 E (0, 0, 0) = c4 at *
        generalize stL 1 [] (0, 0, 0) 1 E (0, 0, 0) = E4 at *
        have HB4 := Lib.hid hb4
        clear hb4
        go_wp2_with fail
        refine (HVAL.out _ (HB4.out.alloc HB4.out.size _)).mono ?_
        rintro e w5 ⟨rfl, hb5⟩
        have HX := Lib.hid ((Blk.new w4 27 #[.int .i64 0, .slice A4 E4.length n4, .int .i64 c4.1, .int .i64 c4.2.1, .int .i64 c4.2.2]).below hb5 (by simp))
        have HB5 := Lib.hid ((HB4.out.alloc HB4.out.size _).trans (hb5.mono (by have := HB4.out.size; simp; omega)))
        clear hb5
        have x0 := HX.out.cell 0
        simp at x0
        go_wp2_with fail
        refine (awake_any _ (HTR.out.calc_ HB5.out)).mono ?_
        rintro e w8 ⟨rfl, hb8⟩
        have HB8 := Lib.hid (HB5.out.trans (hb8.mono HB5.out.size))
        clear hb8
        go_wp2
        go_ret
        exact ⟨rfl, HBL.out.trans (HB8.out.mono HBL.out.size)⟩
end Go.Proofs.YtolkdidcmingkaaDoor
