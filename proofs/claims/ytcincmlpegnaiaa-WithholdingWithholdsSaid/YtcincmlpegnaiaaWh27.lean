/-
  Chapter 30: the walk of the law WithholdingWithholds.
-/
import Derived.Test.YtcincmlpegnaiaaWh26
import Derived.Test.YtcincmlpegnaiaaOpen
namespace Go.Proofs.Ytcincmlpegnaiaa
open Go.RowKit
set_option linter.unusedVariables false
set_option linter.unusedSimpArgs false


/-- a slice of elements: each has a text -/
def RdE (w : World) (B : Nat) (A : Option Addr) (n : Nat) : Prop := 0 < n → ∃ b off, A = some ⟨b, off, none⟩ ∧ b < B ∧ ∀ i, i < n → ∃ s : ByteArray, w.cell? ⟨b, off + i * 2, none⟩ = some (.string s)
set_option maxHeartbeats 800000 in
theorem short_any (A : Option Addr) (n c B : Nat) (w : World) (hr : RdE w B A n) (hn : n ≤ 9223372036854775807) : Calls Try.prog 11 #[.slice A n c] w (fun e w' => ∃ b, e = .returned (.bool b) ∧ w' = w) := by
  have HR := Lib.hid hr
  clear hr
  rcases bool_cases ((140 : Int) < (n : Int)) with t1 | t1
  · go_enter Try.func11, Try.ntmps11
    go_wp2
    go_ret
    exact ⟨_, rfl, rfl⟩
  go_enter Try.func11, Try.ntmps11
  go_wp2
  go_loopw [3] (fun i wr => ∃ k : Nat, k ≤ n ∧ i = .int .i64 k ∧ wr = w) (fun i _ => n - (intOf i).toNat)
  case atStart => exact ⟨0, Nat.zero_le _, rfl, rfl⟩
  case round =>
    obtain ⟨k, hk, rfl, rfl⟩ := hrel
    by_cases hlt : k < n
    · obtain ⟨b, off, rfl, hb, hc⟩ := HR.out (by omega)
      obtain ⟨s, e1⟩ := hc k hlt
      clear hc
      rcases bool_cases ((60 : Int) < (s.size : Int)) with t2 | t2
      · go_wp2
        go_ret
        exact ⟨_, rfl, rfl⟩
      · go_wp2
        go_roundw
        case rel => exact ⟨k + 1, by omega, by go_num, by trivial⟩
        case measure => simp [intOf]; omega
    · go_wp2
      go_ret
      exact ⟨_, rfl, rfl⟩

set_option maxHeartbeats 3200000 in
set_option maxRecDepth 100000 in
theorem withholdingWithholds_walk (A0 : Option Addr) (c0 : Nat) (l0 : List Int) (yp yi yw : Int) (Y3 : Option Addr) (m3 k3 : Nat) (Y4 : Option Addr) (m4 k4 : Nat) (cnt inc : Int) (w : World) (hr0 : RdI w w.heap.size A0 l0) (hl0 : l0.length ≤ 9223372036854775807) (hb0 : ∀ i, i < l0.length → InR (at1 l0 i)) (hm3 : m3 ≤ 9223372036854775807) (hE : RdE w w.heap.size Y4 m4) (hm4 : m4 ≤ 9223372036854775807) (hcnt : InR cnt) (hinc : InR inc) :
    Calls Try.prog 3 #[.slice A0 l0.length c0, .agg #[.int .i64 yp, .int .i64 yi, .int .i64 yw, .slice Y3 m3 k3, .slice Y4 m4 k4], .int .i64 cnt, .int .i64 inc] w (RetB true w) := by
  have HB0 : Hid (Below w.heap.size w (w.alloc (.cells #[.int .i64 yp, .int .i64 yi, .int .i64 yw, .slice Y3 m3 k3, .slice Y4 m4 k4] 25))) := Lib.hid ((Below.refl _ _).alloc (Nat.le_refl _) _)
  have HSH : Hid (Calls Try.prog 11 #[.slice Y4 m4 k4] (w.alloc (.cells #[.int .i64 yp, .int .i64 yi, .int .i64 yw, .slice Y3 m3 k3, .slice Y4 m4 k4] 25)) (fun e w' => ∃ b, e = .returned (.bool b) ∧ w' = w.alloc (.cells #[.int .i64 yp, .int .i64 yi, .int .i64 yw, .slice Y3 m3 k3, .slice Y4 m4 k4] 25))) := Lib.hid (short_any Y4 m4 k4 w.heap.size _ (fun h => by
    obtain ⟨b, off, e, hb, hc⟩ := hE h
    exact ⟨b, off, e, hb, fun i hi => by
      obtain ⟨s, hs⟩ := hc i hi
      exact ⟨s, (HB0.out.cell (p := ⟨b, off + i * 2, none⟩) hb).trans hs⟩⟩) hm4)
  have HR0 : Hid (RdI (w.alloc (.cells #[.int .i64 yp, .int .i64 yi, .int .i64 yw, .slice Y3 m3 k3, .slice Y4 m4 k4] 25)) (w.alloc (.cells #[.int .i64 yp, .int .i64 yi, .int .i64 yw, .slice Y3 m3 k3, .slice Y4 m4 k4] 25)).heap.size A0 l0) := Lib.hid (prd_calc hr0 HB0.out)
  have HYB : Hid (Blk (w.alloc (.cells #[.int .i64 yp, .int .i64 yi, .int .i64 yw, .slice Y3 m3 k3, .slice Y4 m4 k4] 25)) w.heap.size 25 #[.int .i64 yp, .int .i64 yi, .int .i64 yw, .slice Y3 m3 k3, .slice Y4 m4 k4]) := Lib.hid (Blk.new _ _ _)
  clear hb0 hcnt hinc hr0 hE
  rcases bool_cases ((60 : Int) < (m3 : Int)) with t1 | t1
  · go_enter Try.func3, Try.ntmps3
    go_wp2_with fail
    refine (awake_any _).mono ?_
    rintro e w9 ⟨rfl, hb9⟩
    have HB9 := Lib.hid (HB0.out.trans (hb9.mono HB0.out.size))
    clear hb9
    go_wp2
    go_ret
    exact ⟨rfl, HB9.out⟩
  go_enter Try.func3, Try.ntmps3
  go_wp2_with fail
  refine HSH.out.mono ?_
  rintro e ws ⟨sb, rfl, rfl⟩
  clear HSH t1
  cases sb
  · skip
    go_wp2_with fail
    refine (awake_any _).mono ?_
    rintro e w9 ⟨rfl, hb9⟩
    have HB9 := Lib.hid (HB0.out.trans (hb9.mono HB0.out.size))
    clear hb9
    go_wp2
    go_ret
    exact ⟨rfl, HB9.out⟩
  obtain ⟨W0, hW0⟩ : ∃ W0, W0 = w.alloc (.cells #[.int .i64 yp, .int .i64 yi, .int .i64 yw, .slice Y3 m3 k3, .slice Y4 m4 k4] 25) := ⟨_, rfl⟩
  rw [← hW0] at HB0 HR0 HYB
  go_wp2_with fail
  rw [← hW0]
  have hyw : w.heap.size < W0.heap.size := HYB.out.lt
  clear hW0
  refine (new_any A0 c0 l0 W0 HR0.out hl0).mono ?_
  rintro e w1 ⟨rfl, hb1, hD1, hs1⟩
  have HB1 := Lib.hid hb1
  have HD1 := Lib.hid hD1
  clear hb1 hD1
  go_wp2_with fail
  refine (tariff0_any W0.heap.size 0 _ HD1.out (by omega)).mono ?_
  rintro e w2 ⟨t, L, rfl, hv, hrt, hna, hnr, ho, hD2⟩
  have HLW := Lib.hid (LW.start HB1.out hs1 ho hD2 hrt hna hnr)
  have HV := Lib.hid hv
  have hw2 : W0.heap.size < w2.heap.size := by have := ho.size; omega
  clear hv hrt hna hnr ho hD2 HB1 HD1
  have HYB : Hid (Blk (w2.alloc (.cells #[.int .i64 t.m, .slice L.Ab t.bk.length L.nb, .int .i64 t.al, .int .i64 t.cr, .int .i64 t.un, .int .i64 t.mo, .slice L.Ar t.rw.length L.nr] 33)) w.heap.size 25 #[.int .i64 yp, .int .i64 yi, .int .i64 yw, .slice Y3 m3 k3, .slice Y4 m4 k4]) := Lib.hid (HYB.out.below HLW.out.below hyw)
  go_wp2_with fail
  refine (pick_at W0.heap.size (0 + 40) [12, 4, 53] _ 3 3 _ (by simp) HLW.out.deck (by omega) (by decide) (by decide)).mono ?_
  rintro e w3 ⟨c, rfl, hx, ho, hD'⟩
  have HLW := Lib.hid (HLW.out.draw ho hD')
  have HYB := Lib.hid (HYB.out.grown ho (by intro e; injection e; omega))
  have hc : 4 ≤ c ∧ c ≤ 53 := by simp at hx; omega
  clear hx ho hD'
  go_wp2_with fail
  refine (next_any W0.heap.size (0 + 40 + 1) (c + 1) _ HLW.out.deck (by omega) (by omega) (by omega)).mono ?_
  rintro e w4 ⟨v4, rfl, hv4, ho, hD'⟩
  have HLW := Lib.hid (HLW.out.draw ho hD')
  have HYB := Lib.hid (HYB.out.grown ho (by intro e; injection e; omega))
  clear ho hD'
  obtain ⟨n, rfl⟩ : ∃ n : Nat, v4 = (n : Int) := ⟨v4.toNat, by omega⟩
  go_wp2_with fail
  refine (yearG_any n (by omega) W0.heap.size (0 + 40 + 1 + 1) _ HLW.out.deck (by omega)).mono ?_
  rintro e w5 ⟨xi, xw, X3, p3, q3, X4, p4, q4, rfl, ho, hD'⟩
  have HLW := Lib.hid ((HLW.out.draw ho hD').alloc (.cells #[.int .i64 (n : Int), .int .i64 xi, .int .i64 xw, .slice X3 p3 q3, .slice X4 p4 q4] 25))
  have HYB := Lib.hid ((HYB.out.grown ho (by intro e; injection e; omega)).alloc (.cells #[.int .i64 (n : Int), .int .i64 xi, .int .i64 xw, .slice X3 p3 q3, .slice X4 p4 q4] 25))
  have HXB := Lib.hid (Blk.new w5 25 #[.int .i64 (n : Int), .int .i64 xi, .int .i64 xw, .slice X3 p3 q3, .slice X4 p4 q4])
  have hg5 : W0.heap.size < w5.heap.size := hD'.lt
  clear ho hD'
  go_wp2_with fail
  refine (small_any W0.heap.size (0 + 40 + 1 + 1 + 500) _ HLW.out.deck (by omega)).mono ?_
  rintro e w6 ⟨v6, rfl, hv6, ho, hD'⟩
  have HLW := Lib.hid (HLW.out.draw ho hD')
  have HYB := Lib.hid (HYB.out.grown ho (by intro e; injection e; omega))
  have HXB := Lib.hid (HXB.out.grown ho (by intro e; injection e; omega))
  clear ho hD'
  have x0 := HLW.out.box.cell 0
  have x1 := HLW.out.box.cell 1
  have x2 := HLW.out.box.cell 2
  have x3 := HLW.out.box.cell 3
  have x4 := HLW.out.box.cell 4
  have x5 := HLW.out.box.cell 5
  have x6 := HLW.out.box.cell 6
  simp at x0 x1 x2 x3 x4 x5 x6
  have y0 := HXB.out.cell 0
  have y1 := HXB.out.cell 1
  have y2 := HXB.out.cell 2
  have y3 := HXB.out.cell 3
  have y4 := HXB.out.cell 4
  simp at y0 y1 y2 y3 y4
  go_wp2_with fail
  refine (withhold_any t L _ HLW.out.rd c n xi xw X3 p3 q3 X4 p4 q4 v6).mono ?_
  rintro e w7 ⟨rfl, hb⟩
  have HLW := Lib.hid (HLW.out.calc_ hb)
  have HXB := Lib.hid (HXB.out.below hb HXB.out.lt)
  have HYB := Lib.hid (HYB.out.below hb HYB.out.lt)
  clear hb x0 x1 x2 x3 x4 x5 x6 y0 y1 y2 y3 y4
  have x0 := HLW.out.box.cell 0
  have x1 := HLW.out.box.cell 1
  have x2 := HLW.out.box.cell 2
  have x3 := HLW.out.box.cell 3
  have x4 := HLW.out.box.cell 4
  have x5 := HLW.out.box.cell 5
  have x6 := HLW.out.box.cell 6
  simp at x0 x1 x2 x3 x4 x5 x6
  have y0 := HXB.out.cell 0
  have y1 := HXB.out.cell 1
  have y2 := HXB.out.cell 2
  have y3 := HXB.out.cell 3
  have y4 := HXB.out.cell 4
  simp at y0 y1 y2 y3 y4
  go_wp2_with fail
  refine (rwithhold_any t L _ HLW.out.rd c n xi xw X3 p3 q3 X4 p4 q4 v6).mono ?_
  rintro e w8 ⟨rfl, hb⟩
  have HLW := Lib.hid (HLW.out.calc_ hb)
  have HXB := Lib.hid (HXB.out.below hb HXB.out.lt)
  have HYB := Lib.hid (HYB.out.below hb HYB.out.lt)
  clear hb x0 x1 x2 x3 x4 x5 x6 y0 y1 y2 y3 y4
  have x0 := HLW.out.box.cell 0
  have x1 := HLW.out.box.cell 1
  have x2 := HLW.out.box.cell 2
  have x3 := HLW.out.box.cell 3
  have x4 := HLW.out.box.cell 4
  have x5 := HLW.out.box.cell 5
  have x6 := HLW.out.box.cell 6
  simp at x0 x1 x2 x3 x4 x5 x6
  have y0 := HYB.out.cell 0
  have y1 := HYB.out.cell 1
  have y2 := HYB.out.cell 2
  have y3 := HYB.out.cell 3
  have y4 := HYB.out.cell 4
  simp at y0 y1 y2 y3 y4
  go_wp2_with fail
  refine (withhold_any t L _ HLW.out.rd cnt yp yi yw Y3 m3 k3 Y4 m4 k4 inc).mono ?_
  rintro e w10 ⟨rfl, hb⟩
  have HLW := Lib.hid (HLW.out.calc_ hb)
  have HXB := Lib.hid (HXB.out.below hb HXB.out.lt)
  have HYB := Lib.hid (HYB.out.below hb HYB.out.lt)
  clear hb x0 x1 x2 x3 x4 x5 x6 y0 y1 y2 y3 y4
  have x0 := HLW.out.box.cell 0
  have x1 := HLW.out.box.cell 1
  have x2 := HLW.out.box.cell 2
  have x3 := HLW.out.box.cell 3
  have x4 := HLW.out.box.cell 4
  have x5 := HLW.out.box.cell 5
  have x6 := HLW.out.box.cell 6
  simp at x0 x1 x2 x3 x4 x5 x6
  have y0 := HYB.out.cell 0
  have y1 := HYB.out.cell 1
  have y2 := HYB.out.cell 2
  have y3 := HYB.out.cell 3
  have y4 := HYB.out.cell 4
  simp at y0 y1 y2 y3 y4
  go_wp2_with fail
  refine (rwithhold_any t L _ HLW.out.rd cnt yp yi yw Y3 m3 k3 Y4 m4 k4 inc).mono ?_
  rintro e w11 ⟨rfl, hb⟩
  have HLW := Lib.hid (HLW.out.calc_ hb)
  have HXB := Lib.hid (HXB.out.below hb HXB.out.lt)
  have HYB := Lib.hid (HYB.out.below hb HYB.out.lt)
  clear hb x0 x1 x2 x3 x4 x5 x6 y0 y1 y2 y3 y4
  have ha1 : (whV t c n xi xw v6 == whV t c n xi xw v6) = true := by simp
  generalize whV t c n xi xw v6 = a1 at *
  have ha2 : (whE t c n xi xw v6 == whE t c n xi xw v6) = true := by simp
  generalize whE t c n xi xw v6 = a2 at *
  have ha3 : (whV t cnt yp yi yw inc == whV t cnt yp yi yw inc) = true := by simp
  generalize whV t cnt yp yi yw inc = a3 at *
  have ha4 : (whE t cnt yp yi yw inc == whE t cnt yp yi yw inc) = true := by simp
  generalize whE t cnt yp yi yw inc = a4 at *
  go_wp2_with fail
  refine (awake_any _).mono ?_
  rintro e w19 ⟨rfl, hb9⟩
  have HLW := Lib.hid (HLW.out.calc_ hb9)
  have HBE := Lib.hid (HB0.out.trans (HLW.out.below.mono HB0.out.size))
  clear hb9
  go_wp2
  go_ret
  exact ⟨rfl, HBE.out⟩

end Go.Proofs.Ytcincmlpegnaiaa
