/-
  Chapter 10: to which shift a stay belongs, of the reference. The memory is that of the given program; no conditions.
-/
import Derived.Test.YtagkdkkpgcolkaaSh12r
namespace Go.Proofs.Ytagkdkkpgcolkaa
open Go.RowKit
set_option linter.unusedVariables false
set_option linter.unusedSimpArgs false
theorem sp_bd {o : Int} {zl : List (Int × Int)} {l : List T3} (hz : zerr o zl = 0) {k : Nat} (hs : sE o zl l k = 0) : 0 ≤ sA o zl l k ∧ sA o zl l k ≤ 120968640 ∧ 0 ≤ sB o zl l k ∧ sB o zl l k ≤ 120970080 ∧ sA o zl l k < sB o zl l k := by
  have hV := zval_of hz
  have hb := firstV_bd hV (tA l k * 1440 + tB l k)
  have h1 : spE o zl (tA l k) (tB l k) (tC l k) = 0 := hs
  unfold sA sB spA spB
  rw [if_pos h1, if_pos h1]
  unfold spE at h1
  rw [if_pos hz] at h1
  split at h1
  · rename_i h2
    have h3 := h2.1
    unfold fldP at h3
    omega
  · cases h1
theorem vE_zerr {o : Int} {zl : List (Int × Int)} {l : List T3} (h : vE o zl l = 0) : zerr o zl = 0 ∧ l.length ≤ 1024 ∧ vTo o zl l l.length = 0 := by
  unfold vE at h
  split at h
  · cases h
  · split at h
    · exact ⟨by assumption, by omega, h⟩
    · rename_i h2; exact absurd h h2
theorem vE_sE {o : Int} {zl : List (Int × Int)} {l : List T3} (h : vE o zl l = 0) {k : Nat} (hk : k < l.length) : sE o zl l k = 0 := vTo_each (vE_zerr h).2.2 k hk
theorem spL_bd {o : Int} {zl : List (Int × Int)} {l : List T3} (h : vE o zl l = 0) : SBd (spL o zl l l.length) := by
  intro i hi
  rw [spL_len] at hi
  have h1 := spL_at (o := o) (zl := zl) (l := l) l.length i hi
  rw [h1.1, h1.2]
  have h2 := sp_bd (vE_zerr h).1 (vE_sE h hi)
  omega
set_option maxRecDepth 100000 in
set_option maxHeartbeats 3200000 in
theorem rbelongs_any (o : Int) (zA : Option Addr) (zc zn : Nat) (zl : List (Int × Int)) (A : Option Addr) (c n : Nat) (l : List T3) (t early late : Int) (w : World) (hzn : Hid (zn = zl.length)) (hn : Hid (n = l.length)) (hz : RdP w w.heap.size zA zl) (hzl : zl.length ≤ 9223372036854775807) (hr : RdT w w.heap.size A l) (hv : Hid (vE o zl l = 0)) (ht0 : 0 ≤ t) (ht1 : t ≤ 120968640) (he0 : 0 ≤ early) (he1 : early ≤ 1440) (hl0 : 0 ≤ late) (hl1 : late ≤ 1440) :
    Calls Try.prog 40 #[.agg #[.int .i64 o, .slice zA zn zc], .slice A n c, .int .i64 t, .int .i64 early, .int .i64 late] w (RetI (blV (spL o zl l l.length) t early late) w) := by
  have HZ := Lib.hid hz
  have HR := Lib.hid hr
  have HZL := Lib.hid hzl
  have hl : n ≤ 1024 := by rw [hn.out]; exact (vE_zerr hv.out).2.1
  obtain ⟨S, HS⟩ : ∃ S, Hid (S = spL o zl l l.length) := ⟨_, Lib.hid rfl⟩
  rw [← HS.out]
  have HSL : Hid (S.length = n) := Lib.hid (by rw [HS.out, spL_len, hn.out])
  have HB0 : Hid (∀ ob, Below w.heap.size w (w.alloc ob)) := Lib.hid (fun ob => (Below.refl _ _).alloc (Nat.le_refl _) _)
  clear hz hr hzl
  go_enter Try.func40, Try.ntmps40
  go_wp2
  go_loopw [11, 12, 13] (fun v11 v12 i wr => ∃ (k : Nat) (p : Int × Int), k ≤ n ∧ i = .int .i64 k ∧ p = blTo S t early late k ∧ v11 = .int .i64 p.1 ∧ v12 = .int .i64 p.2 ∧ Blk wr w.heap.size 25 #[.int .i64 o, .slice zA zn zc] ∧ Below w.heap.size w wr) (fun _ _ i _ => n - (intOf i).toNat)
  case atStart => exact ⟨0, (-1, 0), Nat.zero_le _, rfl, rfl, rfl, rfl, Blk.new _ _ _, HB0.out _⟩
  case round =>
    obtain ⟨k, ⟨b0, n0⟩, hk, rfl, hp, rfl, rfl, hblk, hb⟩ := hrel
    have HP := Lib.hid hp
    have HB := Lib.hid hb
    have HZb := Lib.hid hblk
    clear hp hb hblk
    by_cases hlt : k < n
    · have hkl : k < l.length := by rw [← hn.out]; exact hlt
      obtain ⟨g, off, rfl, c0, c1, c2⟩ := shift_cells HR HB.out hkl
      obtain ⟨d, Hd⟩ : ∃ d, Hid (d = tA l k) := ⟨_, Lib.hid rfl⟩
      obtain ⟨st, Hst⟩ : ∃ d, Hid (d = tB l k) := ⟨_, Lib.hid rfl⟩
      obtain ⟨mi, Hmi⟩ : ∃ d, Hid (d = tC l k) := ⟨_, Lib.hid rfl⟩
      obtain ⟨a, Ha⟩ : ∃ a, Hid (a = spA o zl d st mi) := ⟨_, Lib.hid rfl⟩
      obtain ⟨b, Hb⟩ : ∃ a, Hid (a = spB o zl d st mi) := ⟨_, Lib.hid rfl⟩
      obtain ⟨se, Hse⟩ : ∃ a, Hid (a = spE o zl d st mi) := ⟨_, Lib.hid rfl⟩
      rw [← Hd.out] at c0
      rw [← Hst.out] at c1
      rw [← Hmi.out] at c2
      have HSA : Hid (a = fst2 S k) := Lib.hid (by rw [HS.out, (spL_at l.length k hkl).1, Ha.out, Hd.out, Hst.out, Hmi.out]; rfl)
      have HSB : Hid (b = snd2 S k) := Lib.hid (by rw [HS.out, (spL_at l.length k hkl).2, Hb.out, Hd.out, Hst.out, Hmi.out]; rfl)
      have hbd := spL_bd hv.out k (by rw [spL_len]; exact hkl)
      rw [← HS.out, ← HSA.out, ← HSB.out] at hbd
      have HY := Lib.hid (fun (hc : canB (fst2 S k) (snd2 S k) t early late) (h : b0 < 0 ∨ absI (t - fst2 S k) < n0) => bl_yes HP.out hc h)
      have HN := Lib.hid (fun (h : ¬ (canB (fst2 S k) (snd2 S k) t early late ∧ (b0 < 0 ∨ absI (t - fst2 S k) < n0))) => bl_no HP.out h)
      rw [← HSA.out, ← HSB.out] at HY HN
      have HC0 := Lib.hid c0
      have HC1 := Lib.hid c1
      have HC2 := Lib.hid c2
      clear c0 c1 c2 HP
      obtain ⟨q1, q2, q3, q4⟩ := hbd
      go_upto_region 5 with (fail)
      refine rbel_region (o := o) (d := d) (st := st) (mi := mi) (x := a) (y := b) (e_ := se) 5 (by kernel_rfl) rfl rfl rfl rfl rfl rfl rfl rfl rfl rfl rfl rfl (show 77 ≤ 77 from by decide) (fun _ _ _ _ _ h => h) rfl rfl rfl hlt (HZb.out.cell 0) (HZb.out.cell 1) HC0.out HC1.out HC2.out (fun W hW => rspan_at hzn (rdP_up HZ (HB.out.trans (hW.mono HB.out.size))) HZL Ha Hb Hse) ?_
      intro z0 z1 z2 z3 z4 z5 z6 z7 z8 g8 w4 HBlk HBel
      simp only [Act.put, List.setIfInBounds_toArray, List.set_cons_zero, List.set_cons_succ]
      have HZ4 : Hid (Blk w4 w.heap.size 25 #[.int .i64 o, .slice zA zn zc]) := Lib.hid (HZb.out.below HBel.out HZb.out.lt)
      have HB4 : Hid (Below w.heap.size w w4) := Lib.hid (HB.out.trans (HBel.out.mono HB.out.size))
      have d0 : w4.cell? ⟨g8, 0, none⟩ = some (.int .i64 a) := HBlk.out.cell 0
      have d1 : w4.cell? ⟨g8, 1, none⟩ = some (.int .i64 b) := HBlk.out.cell 1
      clear HC0 HC1 HC2 HBel HZb HB HBlk
      by_cases hd : 0 ≤ t - a
      · have HA : Hid (absI (t - a) = t - a) := Lib.hid (by unfold absI; omega)
        rw [HA.out] at HY HN
        go_wp2
        all_goals
          go_roundw
          case rel =>
            by_cases hc : canB a b t early late ∧ (b0 < 0 ∨ t - a < n0)
            · first
                | refine ⟨k + 1, _, ?_, ?_, (HY.out hc.1 hc.2).symm, rfl, ?_, HZ4.out, HB4.out⟩
                | (exfalso; unfold canB at hc; (try simp only [Bool.not_eq_true', Bool.not_eq_false', decide_eq_true_eq, decide_eq_false_iff_not] at *); omega)
              all_goals (first | omega | rfl | go_num | (congr 1; omega))
            · first
                | refine ⟨k + 1, _, ?_, ?_, (HN.out hc).symm, rfl, rfl, HZ4.out, HB4.out⟩
                | (exfalso; unfold canB at hc; (try simp only [Bool.not_eq_true', Bool.not_eq_false', decide_eq_true_eq, decide_eq_false_iff_not] at *); omega)
              all_goals (first | omega | rfl | go_num | (congr 1; omega))
          case measure => simp [intOf]; omega
      · have HA : Hid (absI (t - a) = a - t) := Lib.hid (by unfold absI; omega)
        rw [HA.out] at HY HN
        go_wp2
        all_goals
          go_roundw
          case rel =>
            by_cases hc : canB a b t early late ∧ (b0 < 0 ∨ a - t < n0)
            · first
                | refine ⟨k + 1, _, ?_, ?_, (HY.out hc.1 hc.2).symm, rfl, ?_, HZ4.out, HB4.out⟩
                | (exfalso; unfold canB at hc; (try simp only [Bool.not_eq_true', Bool.not_eq_false', decide_eq_true_eq, decide_eq_false_iff_not] at *); omega)
              all_goals (first | omega | rfl | go_num | (congr 1; omega))
            · first
                | refine ⟨k + 1, _, ?_, ?_, (HN.out hc).symm, rfl, rfl, HZ4.out, HB4.out⟩
                | (exfalso; unfold canB at hc; (try simp only [Bool.not_eq_true', Bool.not_eq_false', decide_eq_true_eq, decide_eq_false_iff_not] at *); omega)
              all_goals (first | omega | rfl | go_num | (congr 1; omega))
          case measure => simp [intOf]; omega
    · obtain rfl : k = n := by omega
      have HV : Hid (blV S t early late = b0) := Lib.hid (by unfold blV; rw [HSL.out, ← HP.out])
      go_wp2
      go_ret
      exact ⟨ret_int HV.out.symm, HB.out⟩
end Go.Proofs.Ytagkdkkpgcolkaa
