/-
  Chapter 10: Valid of the reference of chapter 9. The memory is that of the given program; no conditions.
-/
import Derived.Test.YtagkdkkpgcolkaaSh11r
namespace Go.Proofs.Ytagkdkkpgcolkaa
open Go.RowKit
set_option linter.unusedVariables false
set_option linter.unusedSimpArgs false
theorem prOk1_one {l : List Pr} {k : Nat} (h1 : oneB (pF l k) (pT l k) (pB l k) = true) (h2 : prE l k ≤ pF l k) : prOk1 l k := by
  have h := oneB_of h1
  exact ⟨h2, h.2.1, h.2.2.1, h.2.2.2.1, h.2.2.2.2⟩
theorem prV_one {l : List Pr} {k : Nat} (hk : k < l.length) (hok : prOk l k) (h : oneB (pF l k) (pT l k) (pB l k) = false) : prV l = 1 := prV_bad hk (fun h1 => by
  have h2 := prE_nonneg hok (by omega)
  have h3 : oneB (pF l k) (pT l k) (pB l k) = true := oneB_yes ⟨by have := h1.1; omega, h1.2.1, h1.2.2.1, h1.2.2.2.1, h1.2.2.2.2⟩
  rw [h3] at h
  cases h)
set_option maxRecDepth 100000 in
set_option maxHeartbeats 1600000 in
theorem rvalid9_any (A : Option Addr) (c n : Nat) (l : List Pr) (w : World) (hn : Hid (n = l.length)) (hr : RdPr w A l) (hl : n ≤ 9223372036854775807) :
    Calls Try.prog 39 #[.slice A n c] w (RetI (prV l) w) := by
  have HR := Lib.hid hr
  clear hr
  by_cases hlong : 1024 < n
  · have hi : 1024 < (n : Int) := by omega
    have HV : Hid (prV l = 1) := Lib.hid (prV_long (by rw [← hn.out]; exact hlong))
    go_enter Try.func39, Try.ntmps39
    go_wp2
    go_ret
    exact ⟨ret_int HV.out.symm, Below.refl _ _⟩
  · have hi : ¬ 1024 < (n : Int) := by omega
    go_enter Try.func39, Try.ntmps39
    go_wp2
    go_loopw [3] (fun i wr => ∃ (k : Nat), k ≤ n ∧ i = .int .i64 k ∧ prOk l k ∧ Below w.heap.size w wr) (fun i _ => n - (intOf i).toNat)
    case atStart => exact ⟨0, Nat.zero_le _, rfl, fun i hi => absurd hi (by omega), Below.refl _ _⟩
    case round =>
      obtain ⟨k, hk, rfl, hok, hb⟩ := hrel
      have HOK := Lib.hid hok
      have HB := Lib.hid hb
      clear hok hb
      by_cases hlt : k < n
      · have hkl : k < l.length := by rw [← hn.out]; exact hlt
        obtain ⟨g, off, B, m, cb, rfl, hpr⟩ := pr_cells HR HB.out hkl
        obtain ⟨f, Hf⟩ : ∃ e, Hid (e = pF l k) := ⟨_, Lib.hid rfl⟩
        obtain ⟨t, Ht⟩ : ∃ e, Hid (e = pT l k) := ⟨_, Lib.hid rfl⟩
        obtain ⟨bs, Hbs⟩ : ∃ e, Hid (e = pB l k) := ⟨_, Lib.hid rfl⟩
        rw [← Hf.out, ← Ht.out, ← Hbs.out] at hpr
        have HPr := Lib.hid hpr
        clear hpr
        obtain ⟨q1, Hq1⟩ : ∃ q, Hid (q = oneB f t bs) := ⟨_, Lib.hid rfl⟩
        have HOne : Hid (∀ W, Bel wr W → Calls Try.prog 49 #[(.agg #[.int .i64 f, .int .i64 t, .slice B m cb])] W (RetB q1 W)) := Lib.hid (fun W hW => one_at (Lib.hid HPr.out.len) (rdP_up (Lib.hid HPr.out.rd) hW) Hq1)
        cases q1 with
        | false =>
          have HV : Hid (prV l = 1) := Lib.hid (prV_one hkl HOK.out (by rw [← Hf.out, ← Ht.out, ← Hbs.out]; exact Hq1.out.symm))
          go_upto_region 6 with (fail)
          refine rv9_no (f := f) (t := t) (B := B) (m := m) (cb := cb) 6 (by kernel_rfl) rfl rfl rfl rfl rfl rfl rfl rfl rfl rfl rfl rfl rfl rfl rfl rfl rfl rfl rfl rfl rfl rfl rfl rfl rfl rfl (show 39 ≤ 39 from by decide) (fun _ _ _ _ _ h => h) rfl rfl hlt HPr.out.c0 HPr.out.c1 HPr.out.c2 HOne.out ?_
          intro z0 z1 z2 z3 z4 z5 z6 z7 z8 z9 z10 z11 z12 z13 z14 z15 z16 z17 z18 z19 z20 z21 z22 z23 z24 w4 hb4
          simp only [Act.put, List.setIfInBounds_toArray, List.set_cons_zero, List.set_cons_succ]
          have HB4 : Hid (Below w.heap.size w w4) := Lib.hid (HB.out.trans (Below.mono hb4 HB.out.size))
          clear hb4
          go_wp2
          go_ret
          exact ⟨ret_int HV.out.symm, HB4.out⟩
        | true =>
          by_cases hk0 : k = 0
          · have HN : Hid (prOk l (k + 1)) := Lib.hid (prOk_succ HOK.out (prOk1_one (by rw [← Hf.out, ← Ht.out, ← Hbs.out]; exact Hq1.out.symm) (by
              have h1 := (oneB_of Hq1.out.symm).1
              rw [Hf.out] at h1
              subst hk0
              exact h1)))
            go_upto_region 6 with (fail)
            refine rv9_first (f := f) (t := t) (B := B) (m := m) (cb := cb) 6 (by kernel_rfl) rfl rfl rfl rfl rfl rfl rfl rfl rfl rfl rfl rfl rfl rfl rfl rfl rfl rfl rfl rfl rfl rfl rfl rfl rfl rfl (show 39 ≤ 39 from by decide) (fun _ _ _ _ _ h => h) rfl rfl hlt hk0 HPr.out.c0 HPr.out.c1 HPr.out.c2 HOne.out ?_
            intro z0 z1 z2 z3 z4 z5 z6 z7 z8 z9 z10 z11 z12 z13 z14 z15 z16 z17 z18 z19 z20 z21 z22 z23 z24 w4 hb4
            simp only [Act.put, List.setIfInBounds_toArray, List.set_cons_zero, List.set_cons_succ]
            have HB4 : Hid (Below w.heap.size w w4) := Lib.hid (HB.out.trans (Below.mono hb4 HB.out.size))
            clear hb4
            go_wp2
            go_roundw
            case rel => exact ⟨k + 1, by omega, by go_num, HN.out, HB4.out⟩
            case measure => simp [intOf]; omega
          · have hkp : 0 < k := by omega
            obtain ⟨g', off', B', m', cb', he', hpr'⟩ := pr_cells HR HB.out (show k - 1 < l.length by omega)
            injection he' with he'
            injection he' with hg' ho' _
            subst hg' ho'
            obtain ⟨pe, Hpe⟩ : ∃ e, Hid (e = prE l k) := ⟨_, Lib.hid rfl⟩
            have hpc := hpr'.c1
            have hpe : pT l (k - 1) = pe := by
              rw [Hpe.out]
              obtain ⟨j, rfl⟩ : ∃ j, k = j + 1 := ⟨k - 1, by omega⟩
              rfl
            rw [hpe] at hpc
            have HPC := Lib.hid hpc
            clear hpc hpr' hpe
            obtain ⟨tv, Htv⟩ : ∃ tv, Hid (tv = decide (f < pe)) := ⟨_, Lib.hid rfl⟩
            go_upto_region 6 with (fail)
            refine rv9_next (f := f) (t := t) (B := B) (m := m) (cb := cb) 6 (by kernel_rfl) rfl rfl rfl rfl rfl rfl rfl rfl rfl rfl rfl rfl rfl rfl rfl rfl rfl rfl rfl rfl rfl rfl rfl rfl rfl rfl (show 39 ≤ 39 from by decide) (fun _ _ _ _ _ h => h) rfl rfl hlt hkp (by omega) Htv HPC.out HPr.out.c0 HPr.out.c1 HPr.out.c2 HOne.out ?_
            intro z0 z1 z2 z3 z4 z5 z6 z7 z8 z9 z10 z11 z12 z13 z14 z15 z16 z17 z18 z19 z20 z21 z22 z23 z24 w4 hb4
            simp only [Act.put, List.setIfInBounds_toArray, List.set_cons_zero, List.set_cons_succ]
            have HB4 : Hid (Below w.heap.size w w4) := Lib.hid (HB.out.trans (Below.mono hb4 HB.out.size))
            clear hb4
            cases tv with
            | true =>
              have hov : f < pe := by simpa using Htv.out.symm
              have HV : Hid (prV l = 1) := Lib.hid (prV_bad hkl (fun h1 => by
                have h2 := h1.1
                rw [← Hpe.out, ← Hf.out] at h2
                omega))
              go_wp2
              go_ret
              exact ⟨ret_int HV.out.symm, HB4.out⟩
            | false =>
              have hov : ¬ f < pe := by simpa using Htv.out.symm
              have HN : Hid (prOk l (k + 1)) := Lib.hid (prOk_succ HOK.out (prOk1_one (by rw [← Hf.out, ← Ht.out, ← Hbs.out]; exact Hq1.out.symm) (by rw [← Hpe.out, ← Hf.out]; omega)))
              go_wp2
              go_roundw
              case rel => exact ⟨k + 1, by omega, by go_num, HN.out, HB4.out⟩
              case measure => simp [intOf]; omega
      · obtain rfl : k = n := by omega
        have HV : Hid (prV l = 0) := Lib.hid (prV_ok (by rw [← hn.out]; omega) (by rw [← hn.out]; exact HOK.out))
        go_wp2
        go_ret
        exact ⟨ret_int HV.out.symm, HB.out⟩
end Go.Proofs.Ytagkdkkpgcolkaa
