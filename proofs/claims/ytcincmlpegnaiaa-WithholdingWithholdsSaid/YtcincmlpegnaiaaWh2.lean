/-
  Chapter 30: tariffs; Valid of both packages, taxOf and tax.
-/
import Derived.Test.YtcincmlpegnaiaaWh1
namespace Go.Proofs.Ytcincmlpegnaiaa
open Go.RowKit
set_option linter.unusedVariables false
set_option linter.unusedSimpArgs false

structure TF where
  m : Int
  bk : List (Int × Int)
  al : Int
  cr : Int
  un : Int
  mo : Int
  rw : List (Int × Int)
/-- where a tariff's lists lie -/
structure TL where
  Ab : Option Addr
  nb : Nat
  Ar : Option Addr
  nr : Nat
structure RdT (w : World) (B : Nat) (L : TL) (t : TF) : Prop where
  b : RdP w B L.Ab t.bk
  r : RdP w B L.Ar t.rw
  lb : t.bk.length ≤ 9223372036854775807
  lr : t.rw.length ≤ 9223372036854775807
theorem RdT.below {w w' : World} {B : Nat} {L : TL} {t : TF} (h : RdT w B L t) (hb : Below B w w') : RdT w' B L t := ⟨Rd.below h.b hb, Rd.below h.r hb, h.lb, h.lr⟩
theorem RdT.more {w : World} {B B' : Nat} {L : TL} {t : TF} (h : RdT w B L t) (hB : B ≤ B') : RdT w B' L t := ⟨Rd.more h.b hB, Rd.more h.r hB, h.lb, h.lr⟩
theorem RdT.calc_ {w w' : World} {L : TL} {t : TF} (h : RdT w w.heap.size L t) (hb : Below w.heap.size w w') : RdT w' w'.heap.size L t := (h.below hb).more hb.size
noncomputable def mB (t : TF) : Bool := if t.m = 1 then tblB t.rw else if t.m = 2 ∨ t.m = 3 then decide (t.rw.length = 0) else false
noncomputable def tvB (t : TF) : Bool := mB t && (valB t.bk && (amtB t.al && (amtB t.cr && (decide (1 ≤ t.un) && (decide (t.un ≤ 100) && (decide (0 ≤ t.mo) && decide (t.mo ≤ 6)))))))
theorem len_zero (l : List (Int × Int)) : ((l.length : Int) == 0) = decide (l.length = 0) := by
  cases l with
  | nil => rfl
  | cons a l => simp; omega
/-- a tariff's variable at the first new block -/
structure BX (w : World) (cs : Array Value) (W : World) : Prop where
  below : Below w.heap.size w W
  box : Blk W w.heap.size 33 cs
theorem BX.start (w : World) (cs : Array Value) : BX w cs (w.alloc (.cells cs 33)) := ⟨(Below.refl _ _).alloc (Nat.le_refl _) _, Blk.new _ _ _⟩
theorem BX.calc_ {w W W' : World} {cs : Array Value} (h : BX w cs W) (hb : Below W.heap.size W W') : BX w cs W' := ⟨h.below.trans (hb.mono h.below.size), h.box.below hb h.box.lt⟩

set_option maxHeartbeats 6400000 in
theorem wvalid_any (t : TF) (L : TL) (B : Nat) (w : World) (hr : RdT w B L t) (hB : B ≤ w.heap.size) : Calls Try.prog 40 #[.agg #[.int .i64 t.m, .slice L.Ab t.bk.length L.nb, .int .i64 t.al, .int .i64 t.cr, .int .i64 t.un, .int .i64 t.mo, .slice L.Ar t.rw.length L.nr]] w (RetB (tvB t) w) := by
  have HT : Hid (tvB t = (mB t && (valB t.bk && (amtB t.al && (amtB t.cr && (decide (1 ≤ t.un) && (decide (t.un ≤ 100) && (decide (0 ≤ t.mo) && decide (t.mo ≤ 6))))))))) := Lib.hid rfl
  have HM : Hid (mB t = if t.m = 1 then tblB t.rw else if t.m = 2 ∨ t.m = 3 then decide (t.rw.length = 0) else false) := Lib.hid rfl
  have hlr := hr.lr
  have HTB : Hid (∀ W, BX w #[.int .i64 t.m, .slice L.Ab t.bk.length L.nb, .int .i64 t.al, .int .i64 t.cr, .int .i64 t.un, .int .i64 t.mo, .slice L.Ar t.rw.length L.nr] W → Calls Try.prog 52 #[.slice L.Ar t.rw.length L.nr] W (RetB (tblB t.rw) W)) := Lib.hid (fun W h => isTable_any L.Ar L.nr w.heap.size t.rw W (Rd.below (Rd.more hr.r hB) h.below) h.below.size hr.lr)
  have HVB : Hid (∀ W, BX w #[.int .i64 t.m, .slice L.Ab t.bk.length L.nb, .int .i64 t.al, .int .i64 t.cr, .int .i64 t.un, .int .i64 t.mo, .slice L.Ar t.rw.length L.nr] W → Calls Try.prog 53 #[.slice L.Ab t.bk.length L.nb] W (RetB (valB t.bk) W)) := Lib.hid (fun W h => valid_any L.Ab L.nb w.heap.size t.bk W (Rd.below (Rd.more hr.b hB) h.below) h.below.size hr.lb)
  have HBX := Lib.hid (BX.start w #[.int .i64 t.m, .slice L.Ab t.bk.length L.nb, .int .i64 t.al, .int .i64 t.cr, .int .i64 t.un, .int .i64 t.mo, .slice L.Ar t.rw.length L.nr])
  have HAL : Hid (∀ W, Calls Try.prog 41 #[.int .i64 t.al] W (RetQ (amtB t.al) W)) := Lib.hid (fun W => isAmount_any _ W)
  have HCR : Hid (∀ W, Calls Try.prog 41 #[.int .i64 t.cr] W (RetQ (amtB t.cr) W)) := Lib.hid (fun W => isAmount_any _ W)
  clear hr
  generalize tblB t.rw = tb at *
  generalize valB t.bk = vb at *
  generalize amtB t.al = aa at *
  generalize amtB t.cr = ac at *
  by_cases h1 : t.m = 1
  · have k1 : (t.m == 1) = true := by simpa using h1
    cases tb
    · have HF : Hid (tvB t = false) := Lib.hid (by rw [HT.out, HM.out, if_pos h1]; rfl)
      clear h1
      go_enter Try.func40, Try.ntmps40
      go_wp2_with fail
      refine (HTB.out _ HBX.out).mono ?_
      rintro e w1 ⟨rfl, hb⟩
      have HBX := Lib.hid (HBX.out.calc_ hb)
      clear hb
      go_wp2
      go_ret
      exact ⟨ret_bool HF.out.symm, HBX.out.below⟩
    · have HT' : Hid (tvB t = (vb && (aa && (ac && (decide (1 ≤ t.un) && (decide (t.un ≤ 100) && (decide (0 ≤ t.mo) && decide (t.mo ≤ 6)))))))) := Lib.hid (by rw [HT.out, HM.out, if_pos h1]; rfl)
      clear h1
      go_enter Try.func40, Try.ntmps40
      go_wp2_with fail
      refine (HTB.out _ HBX.out).mono ?_
      rintro e w1 ⟨rfl, hb⟩
      have HBX := Lib.hid (HBX.out.calc_ hb)
      clear hb
      have x0 := HBX.out.box.cell 0
      have x1 := HBX.out.box.cell 1
      have x2 := HBX.out.box.cell 2
      have x3 := HBX.out.box.cell 3
      have x4 := HBX.out.box.cell 4
      have x5 := HBX.out.box.cell 5
      have x6 := HBX.out.box.cell 6
      simp at x0 x1 x2 x3 x4 x5 x6
      go_wp2_with fail
      refine (HVB.out _ HBX.out).mono ?_
      rintro e w2 ⟨rfl, hb⟩
      have HBX := Lib.hid (HBX.out.calc_ hb)
      clear hb x0 x1 x2 x3 x4 x5 x6
      cases vb
      · have HF : Hid (tvB t = false) := Lib.hid (by rw [HT'.out]; rfl)
        go_wp2
        go_ret
        exact ⟨ret_bool HF.out.symm, HBX.out.below⟩
      · have x0 := HBX.out.box.cell 0
        have x1 := HBX.out.box.cell 1
        have x2 := HBX.out.box.cell 2
        have x3 := HBX.out.box.cell 3
        have x4 := HBX.out.box.cell 4
        have x5 := HBX.out.box.cell 5
        have x6 := HBX.out.box.cell 6
        simp at x0 x1 x2 x3 x4 x5 x6
        go_wp2_with fail
        refine (HAL.out _).mono ?_
        rintro e w3 ⟨rfl, rfl⟩
        cases aa
        · have HF : Hid (tvB t = false) := Lib.hid (by rw [HT'.out]; rfl)
          go_wp2
          go_ret
          exact ⟨ret_bool HF.out.symm, HBX.out.below⟩
        · go_wp2_with fail
          refine (HCR.out _).mono ?_
          rintro e w4 ⟨rfl, rfl⟩
          cases ac
          · have HF : Hid (tvB t = false) := Lib.hid (by rw [HT'.out]; rfl)
            go_wp2
            go_ret
            exact ⟨ret_bool HF.out.symm, HBX.out.below⟩
          · rcases bool_cases (1 ≤ t.un) with t0 | t0
            · rcases bool_cases (t.un ≤ 100) with t1 | t1
              · rcases bool_cases (0 ≤ t.mo) with t2 | t2
                · rcases bool_cases (t.mo ≤ 6) with t3 | t3
                  · have HF : Hid (tvB t = true) := Lib.hid (by rw [HT'.out, t0, t1, t2, t3]; rfl)
                    go_wp2
                    go_ret
                    exact ⟨ret_bool HF.out.symm, HBX.out.below⟩
                  · have HF : Hid (tvB t = false) := Lib.hid (by rw [HT'.out, t3]; simp)
                    go_wp2
                    go_ret
                    exact ⟨ret_bool HF.out.symm, HBX.out.below⟩
                · have HF : Hid (tvB t = false) := Lib.hid (by rw [HT'.out, t2]; simp)
                  go_wp2
                  go_ret
                  exact ⟨ret_bool HF.out.symm, HBX.out.below⟩
              · have HF : Hid (tvB t = false) := Lib.hid (by rw [HT'.out, t1]; simp)
                go_wp2
                go_ret
                exact ⟨ret_bool HF.out.symm, HBX.out.below⟩
            · have HF : Hid (tvB t = false) := Lib.hid (by rw [HT'.out, t0]; simp)
              go_wp2
              go_ret
              exact ⟨ret_bool HF.out.symm, HBX.out.below⟩
  · have k1 : (t.m == 1) = false := by simpa using h1
    by_cases hm : t.m = 2 ∨ t.m = 3
    · by_cases h0 : t.rw.length = 0
      · have HT' : Hid (tvB t = (vb && (aa && (ac && (decide (1 ≤ t.un) && (decide (t.un ≤ 100) && (decide (0 ≤ t.mo) && decide (t.mo ≤ 6)))))))) := Lib.hid (by rw [HT.out, HM.out, if_neg h1, if_pos hm, h0]; rfl)
        have d0 : decide ((0 : Int) < (t.rw.length : Int)) = false := by simp; exact List.eq_nil_of_length_eq_zero h0
        have d0' : decide (0 < t.rw.length) = false := by simp; exact List.eq_nil_of_length_eq_zero h0
        rcases hm with h2 | h3
        · have k2 : (t.m == 2) = true := by simpa using h2
          clear h1 h2 h0
          go_enter Try.func40, Try.ntmps40
          have x0 := HBX.out.box.cell 0
          have x1 := HBX.out.box.cell 1
          have x2 := HBX.out.box.cell 2
          have x3 := HBX.out.box.cell 3
          have x4 := HBX.out.box.cell 4
          have x5 := HBX.out.box.cell 5
          have x6 := HBX.out.box.cell 6
          simp at x0 x1 x2 x3 x4 x5 x6
          go_wp2_with fail
          refine (HVB.out _ HBX.out).mono ?_
          rintro e w2 ⟨rfl, hb⟩
          have HBX := Lib.hid (HBX.out.calc_ hb)
          clear hb x0 x1 x2 x3 x4 x5 x6
          cases vb
          · have HF : Hid (tvB t = false) := Lib.hid (by rw [HT'.out]; rfl)
            go_wp2
            go_ret
            exact ⟨ret_bool HF.out.symm, HBX.out.below⟩
          · have x0 := HBX.out.box.cell 0
            have x1 := HBX.out.box.cell 1
            have x2 := HBX.out.box.cell 2
            have x3 := HBX.out.box.cell 3
            have x4 := HBX.out.box.cell 4
            have x5 := HBX.out.box.cell 5
            have x6 := HBX.out.box.cell 6
            simp at x0 x1 x2 x3 x4 x5 x6
            go_wp2_with fail
            refine (HAL.out _).mono ?_
            rintro e w3 ⟨rfl, rfl⟩
            cases aa
            · have HF : Hid (tvB t = false) := Lib.hid (by rw [HT'.out]; rfl)
              go_wp2
              go_ret
              exact ⟨ret_bool HF.out.symm, HBX.out.below⟩
            · go_wp2_with fail
              refine (HCR.out _).mono ?_
              rintro e w4 ⟨rfl, rfl⟩
              cases ac
              · have HF : Hid (tvB t = false) := Lib.hid (by rw [HT'.out]; rfl)
                go_wp2
                go_ret
                exact ⟨ret_bool HF.out.symm, HBX.out.below⟩
              · rcases bool_cases (1 ≤ t.un) with t0 | t0
                · rcases bool_cases (t.un ≤ 100) with t1 | t1
                  · rcases bool_cases (0 ≤ t.mo) with t2 | t2
                    · rcases bool_cases (t.mo ≤ 6) with t3 | t3
                      · have HF : Hid (tvB t = true) := Lib.hid (by rw [HT'.out, t0, t1, t2, t3]; rfl)
                        go_wp2
                        go_ret
                        exact ⟨ret_bool HF.out.symm, HBX.out.below⟩
                      · have HF : Hid (tvB t = false) := Lib.hid (by rw [HT'.out, t3]; simp)
                        go_wp2
                        go_ret
                        exact ⟨ret_bool HF.out.symm, HBX.out.below⟩
                    · have HF : Hid (tvB t = false) := Lib.hid (by rw [HT'.out, t2]; simp)
                      go_wp2
                      go_ret
                      exact ⟨ret_bool HF.out.symm, HBX.out.below⟩
                  · have HF : Hid (tvB t = false) := Lib.hid (by rw [HT'.out, t1]; simp)
                    go_wp2
                    go_ret
                    exact ⟨ret_bool HF.out.symm, HBX.out.below⟩
                · have HF : Hid (tvB t = false) := Lib.hid (by rw [HT'.out, t0]; simp)
                  go_wp2
                  go_ret
                  exact ⟨ret_bool HF.out.symm, HBX.out.below⟩
        · have k2 : (t.m == 2) = false := by simp; omega
          have k3 : (t.m == 3) = true := by simpa using h3
          clear h1 h3 h0
          go_enter Try.func40, Try.ntmps40
          have x0 := HBX.out.box.cell 0
          have x1 := HBX.out.box.cell 1
          have x2 := HBX.out.box.cell 2
          have x3 := HBX.out.box.cell 3
          have x4 := HBX.out.box.cell 4
          have x5 := HBX.out.box.cell 5
          have x6 := HBX.out.box.cell 6
          simp at x0 x1 x2 x3 x4 x5 x6
          go_wp2_with fail
          refine (HVB.out _ HBX.out).mono ?_
          rintro e w2 ⟨rfl, hb⟩
          have HBX := Lib.hid (HBX.out.calc_ hb)
          clear hb x0 x1 x2 x3 x4 x5 x6
          cases vb
          · have HF : Hid (tvB t = false) := Lib.hid (by rw [HT'.out]; rfl)
            go_wp2
            go_ret
            exact ⟨ret_bool HF.out.symm, HBX.out.below⟩
          · have x0 := HBX.out.box.cell 0
            have x1 := HBX.out.box.cell 1
            have x2 := HBX.out.box.cell 2
            have x3 := HBX.out.box.cell 3
            have x4 := HBX.out.box.cell 4
            have x5 := HBX.out.box.cell 5
            have x6 := HBX.out.box.cell 6
            simp at x0 x1 x2 x3 x4 x5 x6
            go_wp2_with fail
            refine (HAL.out _).mono ?_
            rintro e w3 ⟨rfl, rfl⟩
            cases aa
            · have HF : Hid (tvB t = false) := Lib.hid (by rw [HT'.out]; rfl)
              go_wp2
              go_ret
              exact ⟨ret_bool HF.out.symm, HBX.out.below⟩
            · go_wp2_with fail
              refine (HCR.out _).mono ?_
              rintro e w4 ⟨rfl, rfl⟩
              cases ac
              · have HF : Hid (tvB t = false) := Lib.hid (by rw [HT'.out]; rfl)
                go_wp2
                go_ret
                exact ⟨ret_bool HF.out.symm, HBX.out.below⟩
              · rcases bool_cases (1 ≤ t.un) with t0 | t0
                · rcases bool_cases (t.un ≤ 100) with t1 | t1
                  · rcases bool_cases (0 ≤ t.mo) with t2 | t2
                    · rcases bool_cases (t.mo ≤ 6) with t3 | t3
                      · have HF : Hid (tvB t = true) := Lib.hid (by rw [HT'.out, t0, t1, t2, t3]; rfl)
                        go_wp2
                        go_ret
                        exact ⟨ret_bool HF.out.symm, HBX.out.below⟩
                      · have HF : Hid (tvB t = false) := Lib.hid (by rw [HT'.out, t3]; simp)
                        go_wp2
                        go_ret
                        exact ⟨ret_bool HF.out.symm, HBX.out.below⟩
                    · have HF : Hid (tvB t = false) := Lib.hid (by rw [HT'.out, t2]; simp)
                      go_wp2
                      go_ret
                      exact ⟨ret_bool HF.out.symm, HBX.out.below⟩
                  · have HF : Hid (tvB t = false) := Lib.hid (by rw [HT'.out, t1]; simp)
                    go_wp2
                    go_ret
                    exact ⟨ret_bool HF.out.symm, HBX.out.below⟩
                · have HF : Hid (tvB t = false) := Lib.hid (by rw [HT'.out, t0]; simp)
                  go_wp2
                  go_ret
                  exact ⟨ret_bool HF.out.symm, HBX.out.below⟩
      · have HF : Hid (tvB t = false) := Lib.hid (by rw [HT.out, HM.out, if_neg h1, if_pos hm]; simp [show ¬ t.rw = [] from fun e => h0 (by rw [e]; rfl)])
        have d0 : decide ((0 : Int) < (t.rw.length : Int)) = true := by simp; omega
        rcases hm with h2 | h3
        · have k2 : (t.m == 2) = true := by simpa using h2
          clear h1 h2
          go_enter Try.func40, Try.ntmps40
          go_wp2
          go_ret
          exact ⟨ret_bool HF.out.symm, HBX.out.below⟩
        · have k2 : (t.m == 2) = false := by simp; omega
          have k3 : (t.m == 3) = true := by simpa using h3
          clear h1 h3
          go_enter Try.func40, Try.ntmps40
          go_wp2
          go_ret
          exact ⟨ret_bool HF.out.symm, HBX.out.below⟩
    · have HF : Hid (tvB t = false) := Lib.hid (by rw [HT.out, HM.out, if_neg h1, if_neg hm]; rfl)
      have k2 : (t.m == 2) = false := by simp; exact fun e => hm (.inl e)
      have k3 : (t.m == 3) = false := by simp; exact fun e => hm (.inr e)
      clear h1 hm
      go_enter Try.func40, Try.ntmps40
      go_wp2
      go_ret
      exact ⟨ret_bool HF.out.symm, HBX.out.below⟩

set_option maxHeartbeats 6400000 in
theorem rvalid_any (t : TF) (L : TL) (B : Nat) (w : World) (hr : RdT w B L t) (hB : B ≤ w.heap.size) : Calls Try.prog 44 #[.agg #[.int .i64 t.m, .slice L.Ab t.bk.length L.nb, .int .i64 t.al, .int .i64 t.cr, .int .i64 t.un, .int .i64 t.mo, .slice L.Ar t.rw.length L.nr]] w (RetB (tvB t) w) := by
  have HT : Hid (tvB t = (mB t && (valB t.bk && (amtB t.al && (amtB t.cr && (decide (1 ≤ t.un) && (decide (t.un ≤ 100) && (decide (0 ≤ t.mo) && decide (t.mo ≤ 6))))))))) := Lib.hid rfl
  have HM : Hid (mB t = if t.m = 1 then tblB t.rw else if t.m = 2 ∨ t.m = 3 then decide (t.rw.length = 0) else false) := Lib.hid rfl
  have hlr := hr.lr
  have HTB : Hid (∀ W, BX w #[.int .i64 t.m, .slice L.Ab t.bk.length L.nb, .int .i64 t.al, .int .i64 t.cr, .int .i64 t.un, .int .i64 t.mo, .slice L.Ar t.rw.length L.nr] W → Calls Try.prog 56 #[.slice L.Ar t.rw.length L.nr] W (RetB (tblB t.rw) W)) := Lib.hid (fun W h => table_any L.Ar L.nr w.heap.size t.rw W (Rd.below (Rd.more hr.r hB) h.below) h.below.size hr.lr)
  have HVB : Hid (∀ W, BX w #[.int .i64 t.m, .slice L.Ab t.bk.length L.nb, .int .i64 t.al, .int .i64 t.cr, .int .i64 t.un, .int .i64 t.mo, .slice L.Ar t.rw.length L.nr] W → Calls Try.prog 54 #[.slice L.Ab t.bk.length L.nb] W (RetB (valB t.bk) W)) := Lib.hid (fun W h => refValid_any L.Ab L.nb w.heap.size t.bk W (Rd.below (Rd.more hr.b hB) h.below) h.below.size hr.lb)
  have HBX := Lib.hid (BX.start w #[.int .i64 t.m, .slice L.Ab t.bk.length L.nb, .int .i64 t.al, .int .i64 t.cr, .int .i64 t.un, .int .i64 t.mo, .slice L.Ar t.rw.length L.nr])
  have HAL : Hid (∀ W, Calls Try.prog 45 #[.int .i64 t.al, .int .i64 1000000000] W (RetQ (amtB t.al) W)) := Lib.hid (fun W => in_any _ _ W)
  have HCR : Hid (∀ W, Calls Try.prog 45 #[.int .i64 t.cr, .int .i64 1000000000] W (RetQ (amtB t.cr) W)) := Lib.hid (fun W => in_any _ _ W)
  have HMO : Hid (∀ W, Calls Try.prog 55 #[.int .i64 t.mo] W (RetQ (decide (0 ≤ t.mo) && decide (t.mo ≤ 6)) W)) := Lib.hid (fun W => refMode_q _ W)
  clear hr
  generalize tblB t.rw = tb at *
  generalize valB t.bk = vb at *
  generalize amtB t.al = aa at *
  generalize amtB t.cr = ac at *
  rcases bool_cases (t.m < 1) with u0 | u0
  · have HF : Hid (tvB t = false) := Lib.hid (by simp at u0; rw [HT.out, HM.out, if_neg (by omega), if_neg (by omega)]; rfl)
    go_enter Try.func44, Try.ntmps44
    go_wp2
    go_ret
    exact ⟨ret_bool HF.out.symm, HBX.out.below⟩
  rcases bool_cases (3 < t.m) with u1 | u1
  · have HF : Hid (tvB t = false) := Lib.hid (by simp at u1; rw [HT.out, HM.out, if_neg (by omega), if_neg (by omega)]; rfl)
    go_enter Try.func44, Try.ntmps44
    go_wp2
    go_ret
    exact ⟨ret_bool HF.out.symm, HBX.out.below⟩
  go_enter Try.func44, Try.ntmps44
  go_wp2_with fail
  refine (HVB.out _ HBX.out).mono ?_
  rintro e w2 ⟨rfl, hb⟩
  have HBX := Lib.hid (HBX.out.calc_ hb)
  clear hb
  have x0 := HBX.out.box.cell 0
  have x1 := HBX.out.box.cell 1
  have x2 := HBX.out.box.cell 2
  have x3 := HBX.out.box.cell 3
  have x4 := HBX.out.box.cell 4
  have x5 := HBX.out.box.cell 5
  have x6 := HBX.out.box.cell 6
  simp at x0 x1 x2 x3 x4 x5 x6
  cases vb
  · have HF : Hid (tvB t = false) := Lib.hid (by rw [HT.out]; simp)
    go_wp2
    go_ret
    exact ⟨ret_bool HF.out.symm, HBX.out.below⟩
  go_wp2_with fail
  refine (HAL.out _).mono ?_
  rintro e w3 ⟨rfl, rfl⟩
  cases aa
  · have HF : Hid (tvB t = false) := Lib.hid (by rw [HT.out]; simp)
    go_wp2
    go_ret
    exact ⟨ret_bool HF.out.symm, HBX.out.below⟩
  go_wp2_with fail
  refine (HCR.out _).mono ?_
  rintro e w4 ⟨rfl, rfl⟩
  cases ac
  · have HF : Hid (tvB t = false) := Lib.hid (by rw [HT.out]; simp)
    go_wp2
    go_ret
    exact ⟨ret_bool HF.out.symm, HBX.out.below⟩
  rcases bool_cases (t.un < 1) with v0 | v0
  · have HF : Hid (tvB t = false) := Lib.hid (by rw [HT.out, show decide (1 ≤ t.un) = false by simp at v0; simp; omega]; simp)
    go_wp2
    go_ret
    exact ⟨ret_bool HF.out.symm, HBX.out.below⟩
  rcases bool_cases (100 < t.un) with v1 | v1
  · have HF : Hid (tvB t = false) := Lib.hid (by rw [HT.out, show decide (t.un ≤ 100) = false by simp at v1; simp; omega]; simp)
    go_wp2
    go_ret
    exact ⟨ret_bool HF.out.symm, HBX.out.below⟩
  have q1 : decide (1 ≤ t.un) = true := by simp at v0; simp; omega
  have q2 : decide (t.un ≤ 100) = true := by simp at v1; simp; omega
  rcases (show (decide (0 ≤ t.mo) && decide (t.mo ≤ 6)) = true ∨ (decide (0 ≤ t.mo) && decide (t.mo ≤ 6)) = false by cases (decide (0 ≤ t.mo) && decide (t.mo ≤ 6)) <;> simp) with t2 | t2
  · rw [t2] at HMO HT
    go_wp2_with fail
    refine (HMO.out _).mono ?_
    rintro e w5 ⟨rfl, rfl⟩
    rcases bool_cases (t.m = 1) with k | k
    · have k1 : (t.m == 1) = true := by simpa using k
      have HF : Hid (tvB t = tb) := Lib.hid (by rw [HT.out, HM.out, if_pos (by simpa using k)]; simp [q1, q2])
      clear k
      go_wp2_with fail
      refine (HTB.out _ HBX.out).mono ?_
      rintro e w8 ⟨rfl, hb⟩
      have HBX := Lib.hid (HBX.out.calc_ hb)
      clear hb
      go_wp2
      go_ret
      exact ⟨ret_bool HF.out.symm, HBX.out.below⟩
    · have k1 : (t.m == 1) = false := by simpa using k
      have HF : Hid (tvB t = decide (t.rw.length = 0)) := Lib.hid (by
        have hk : ¬ t.m = 1 := by simpa using k
        rw [HT.out, HM.out, if_neg hk, if_pos (by simp at u0 u1; omega)]
        simp [q1, q2])
      clear k
      go_wp2
      go_ret
      refine ⟨ret_bool ?_, HBX.out.below⟩
      rw [HF.out]
      exact len_zero t.rw
  · rw [t2] at HMO HT
    go_wp2_with fail
    refine (HMO.out _).mono ?_
    rintro e w5 ⟨rfl, rfl⟩
    have HF : Hid (tvB t = false) := Lib.hid (by rw [HT.out]; simp)
    go_wp2
    go_ret
    exact ⟨ret_bool HF.out.symm, HBX.out.below⟩

end Go.Proofs.Ytcincmlpegnaiaa
