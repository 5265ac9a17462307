/-
  Chapter 10: presence.Valid. The memory is that of the given program; no conditions.
-/
import Derived.Test.YtagkdkkpgcolkaaSh7
namespace Go.Proofs.Ytagkdkkpgcolkaa
open Go.RowKit
set_option linter.unusedVariables false
set_option linter.unusedSimpArgs false
theorem prV_stay {l : List Pr} {k : Nat} (hk : k < l.length) (h : inB (pF l k) (pT l k) (prE l k) 120968640 = false) : prV l = 1 := prV_bad hk (fun h1 => by
  unfold inB at h
  have h2 := of_decide_eq_false h
  unfold prOk1 at h1
  exact h2 ⟨h1.1, h1.2.1, h1.2.2.1⟩)
theorem prV_many {l : List Pr} {k : Nat} (hk : k < l.length) (h : 1024 < (pB l k).length) : prV l = 1 := prV_bad hk (fun h1 => by
  unfold prOk1 at h1
  omega)
theorem prV_break {l : List Pr} {k j : Nat} (hk : k < l.length) (hj : j < (pB l k).length) (h : inB (fst2 (pB l k) j) (snd2 (pB l k) j) (brE (pF l k) (pB l k) j) (pT l k) = false) : prV l = 1 := prV_bad hk (fun h1 => by
  unfold inB at h
  have h2 := of_decide_eq_false h
  unfold prOk1 at h1
  exact h2 (h1.2.2.2.2 j hj))
theorem inB_of {a b f t : Int} (h : inB a b f t = true) : f ≤ a ∧ a < b ∧ b ≤ t := of_decide_eq_true h
set_option maxRecDepth 100000 in
set_option maxHeartbeats 3200000 in
theorem pvalid_any (A : Option Addr) (c n : Nat) (l : List Pr) (w : World) (hn : Hid (n = l.length)) (hr : RdPr w A l) (hl : n ≤ 9223372036854775807) :
    Calls Try.prog 36 #[.slice A n c] w (RetI (prV l) w) := by
  have HR := Lib.hid hr
  clear hr
  by_cases hlong : 1024 < n
  · have hi : 1024 < (n : Int) := by omega
    have HV : Hid (prV l = 1) := Lib.hid (prV_long (by rw [← hn.out]; exact hlong))
    go_enter Try.func36, Try.ntmps36
    go_wp2
    go_ret
    exact ⟨ret_int HV.out.symm, Below.refl _ _⟩
  · have hi : ¬ 1024 < (n : Int) := by omega
    go_enter Try.func36, Try.ntmps36
    go_wp2
    go_loopw [3, 13] (fun v i wr => ∃ (k : Nat), k ≤ n ∧ i = .int .i64 k ∧ v = .int .i64 (prE l k) ∧ prOk l k ∧ Below w.heap.size w wr) (fun _ i _ => n - (intOf i).toNat)
    case atStart => exact ⟨0, Nat.zero_le _, rfl, rfl, fun i hi => absurd hi (by omega), Below.refl _ _⟩
    case round =>
      obtain ⟨k, hk, rfl, rfl, hok, hb⟩ := hrel
      have HOK := Lib.hid hok
      have HB := Lib.hid hb
      clear hok hb
      obtain ⟨en, Hen⟩ : ∃ e, Hid (e = prE l k) := ⟨_, Lib.hid rfl⟩
      rw [← Hen.out]
      by_cases hlt : k < n
      · have hkl : k < l.length := by rw [← hn.out]; exact hlt
        obtain ⟨g, off, B, m, cb, rfl, hpr⟩ := pr_cells HR HB.out hkl
        obtain ⟨f, Hf⟩ : ∃ e, Hid (e = pF l k) := ⟨_, Lib.hid rfl⟩
        obtain ⟨t, Ht⟩ : ∃ e, Hid (e = pT l k) := ⟨_, Lib.hid rfl⟩
        obtain ⟨bs, Hbs⟩ : ∃ e, Hid (e = pB l k) := ⟨_, Lib.hid rfl⟩
        rw [← Hf.out, ← Ht.out, ← Hbs.out] at hpr
        have HPr := Lib.hid hpr
        have c0 := hpr.c0
        have c1 := hpr.c1
        have c2 := hpr.c2
        have hm63 := hpr.cap
        clear hpr
        obtain ⟨q1, Hq1⟩ : ∃ q, Hid (q = inB f t en 120968640) := ⟨_, Lib.hid rfl⟩
        have HBW : Hid (∀ o, Below w.heap.size w (wr.alloc o)) := Lib.hid (fun o => HB.out.alloc HB.out.size o)
        go_wp2_with fail
        refine (within_at Hq1).mono ?_
        rintro e w1 ⟨rfl, hb1⟩
        have HBx : Hid (Below wr.heap.size wr w1) := Lib.hid (((Below.refl _ _).alloc (Nat.le_refl _) _).trans (hb1.mono (by simp)))
        have HB1 : Hid (Below w.heap.size w w1) := Lib.hid (HB.out.trans (HBx.out.mono HB.out.size))
        have HBlk : Hid (Blk w1 wr.heap.size 58 #[.int .i64 f, .int .i64 t, .slice B m cb]) := Lib.hid ((Blk.new _ _ _).below hb1 (by simp))
        have HRB : Hid (RdP w1 w1.heap.size B bs) := Lib.hid (Rd.more (RdP.below HPr.out.rd HBx.out) HBx.out.size)
        have Hm : Hid (bs.length = m) := Lib.hid HPr.out.len
        obtain ⟨gp, Hgp⟩ : ∃ g, Hid (g = wr.heap.size) := ⟨_, Lib.hid rfl⟩
        rw [← Hgp.out] at HBlk ⊢
        clear hb1 c0 c1 c2 HBx HPr HBW HB
        have e0 : w1.cell? ⟨gp, 0, none⟩ = some (.int .i64 f) := HBlk.out.cell 0
        have e1 : w1.cell? ⟨gp, 1, none⟩ = some (.int .i64 t) := HBlk.out.cell 1
        have e2 : w1.cell? ⟨gp, 2, none⟩ = some (.slice B m cb) := HBlk.out.cell 2
        cases q1 with
        | false =>
          have HV : Hid (prV l = 1) := Lib.hid (prV_stay hkl (by rw [← Hf.out, ← Ht.out, ← Hen.out]; exact Hq1.out.symm))
          go_wp2
          go_ret
          exact ⟨ret_int HV.out.symm, HB1.out⟩
        | true =>
          by_cases hm : 1024 < m
          · have HV : Hid (prV l = 1) := Lib.hid (prV_many hkl (by rw [← Hbs.out, Hm.out]; exact hm))
            have hm1 : 1024 < (m : Int) := by omega
            go_wp2
            go_ret
            exact ⟨ret_int HV.out.symm, HB1.out⟩
          · have hm1 : ¬ 1024 < (m : Int) := by omega
            go_wp2
            go_loopw [3, 34] (fun v i wr => ∃ (j : Nat), j ≤ m ∧ i = .int .i64 j ∧ v = .int .i64 (brE f bs j) ∧ brOk f t bs j ∧ Below w1.heap.size w1 wr) (fun _ i _ => m - (intOf i).toNat)
            case atStart => exact ⟨0, Nat.zero_le _, rfl, rfl, fun i hi => absurd hi (by omega), Below.refl _ _⟩
            case round =>
              obtain ⟨j, hj, rfl, rfl, hok2, hb2⟩ := hrel
              have HOK2 := Lib.hid hok2
              have HB2 := Lib.hid hb2
              have HBlk2 := Lib.hid (HBlk.out.below hb2 HBlk.out.lt)
              clear hok2 hb2 e0 e1 e2
              have e0 : wr.cell? ⟨gp, 0, none⟩ = some (.int .i64 f) := HBlk2.out.cell 0
              have e1 : wr.cell? ⟨gp, 1, none⟩ = some (.int .i64 t) := HBlk2.out.cell 1
              have e2 : wr.cell? ⟨gp, 2, none⟩ = some (.slice B m cb) := HBlk2.out.cell 2
              obtain ⟨eb, Heb⟩ : ∃ e, Hid (e = brE f bs j) := ⟨_, Lib.hid rfl⟩
              rw [← Heb.out]
              by_cases hjm : j < m
              · have hjl : j < bs.length := by rw [Hm.out]; exact hjm
                obtain ⟨gb, ob, rfl, hgb, h0, h1⟩ := HRB.out.all (by omega)
                have c0 := (HB2.out.cell (p := ⟨gb, ob + j * 2, none⟩) hgb).trans (h0 j hjl)
                have c1 := (HB2.out.cell (p := ⟨gb, ob + j * 2 + 1, none⟩) hgb).trans (h1 j hjl)
                clear h0 h1
                obtain ⟨x, Hx⟩ : ∃ e, Hid (e = fst2 bs j) := ⟨_, Lib.hid rfl⟩
                obtain ⟨y, Hy⟩ : ∃ e, Hid (e = snd2 bs j) := ⟨_, Lib.hid rfl⟩
                rw [← Hx.out] at c0
                rw [← Hy.out] at c1
                obtain ⟨q2, Hq2⟩ : ∃ q, Hid (q = inB x y eb t) := ⟨_, Lib.hid rfl⟩
                have e3 : (wr.alloc (.cells #[.int .i64 x, .int .i64 y] 38)).cell? ⟨gp, 1, none⟩ = some (.int .i64 t) := (HBlk2.out.below ((Below.refl _ _).alloc (Nat.le_refl _) _) HBlk2.out.lt).cell 1
                go_wp2_with fail
                refine (within_at Hq2).mono ?_
                rintro e w2 ⟨rfl, hb3⟩
                have HBy : Hid (Below wr.heap.size wr w2) := Lib.hid (((Below.refl _ _).alloc (Nat.le_refl _) _).trans (hb3.mono (by simp)))
                have d0 : w2.cell? ⟨wr.heap.size, 0, none⟩ = some (.int .i64 x) := ((Blk.new _ _ _).below hb3 (by simp)).cell 0
                have d1 : w2.cell? ⟨wr.heap.size, 1, none⟩ = some (.int .i64 y) := ((Blk.new _ _ _).below hb3 (by simp)).cell 1
                have HB3 : Hid (Below w1.heap.size w1 w2) := Lib.hid (HB2.out.trans (HBy.out.mono HB2.out.size))
                obtain ⟨gq, Hgq⟩ : ∃ g, Hid (g = wr.heap.size) := ⟨_, Lib.hid rfl⟩
                rw [← Hgq.out] at d0 d1 ⊢
                clear hb3 HBy HB2 c0 c1 e0 e1 e2 e3
                cases q2 with
                | false =>
                  have HV : Hid (prV l = 1) := Lib.hid (prV_break hkl (j := j) (by rw [← Hbs.out]; exact hjl) (by rw [← Hf.out, ← Ht.out, ← Hbs.out, ← Heb.out, ← Hx.out, ← Hy.out]; exact Hq2.out.symm))
                  go_wp2
                  go_ret
                  exact ⟨ret_int HV.out.symm, HB1.out.trans (HB3.out.mono HB1.out.size)⟩
                | true =>
                  have HN : Hid (brOk f t bs (j + 1)) := Lib.hid (brOk_succ HOK2.out (by rw [← Heb.out, ← Hx.out, ← Hy.out]; exact inB_of Hq2.out.symm))
                  go_wp2
                  go_roundw
                  case rel => exact ⟨j + 1, by omega, by go_num, by rw [Hy.out]; rfl, HN.out, HB3.out⟩
                  case measure => simp [intOf]; omega
              · obtain rfl : j = m := by omega
                have HN : Hid (prOk l (k + 1)) := Lib.hid (prOk_succ HOK.out (by
                  have h1 := inB_of Hq1.out.symm
                  unfold prOk1
                  rw [← Hf.out, ← Ht.out, ← Hen.out, ← Hbs.out, Hm.out]
                  exact ⟨h1.1, h1.2.1, h1.2.2, by omega, HOK2.out⟩))
                have HB3 : Hid (Below w.heap.size w wr) := Lib.hid (HB1.out.trans (HB2.out.mono HB1.out.size))
                go_wp2
                go_roundw
                case rel => exact ⟨k + 1, by omega, by go_num, by rw [Ht.out]; rfl, HN.out, HB3.out⟩
                case measure => simp [intOf]; omega
      · obtain rfl : k = n := by omega
        have HV : Hid (prV l = 0) := Lib.hid (prV_ok (by rw [← hn.out]; omega) (by rw [← hn.out]; exact HOK.out))
        go_wp2
        go_ret
        exact ⟨ret_int HV.out.symm, HB.out⟩
end Go.Proofs.Ytagkdkkpgcolkaa
