/-
  Chapter 30: the walk of the law WithholdingSums.
-/
import Derived.Test.YtcincmlpegnaiaaWh15
import Derived.Test.YtcincmlpegnaiaaWh16
import Derived.Deep.RegionHeld3
import Derived.Deep.DeepCutAuto
namespace Go.Proofs.Ytcincmlpegnaiaa
open Go.RowKit
set_option linter.unusedVariables false
set_option linter.unusedSimpArgs false


def tsum : List Int → Int
  | [] => 0
  | a :: l => a + tsum l
theorem tsum_append : ∀ a b : List Int, tsum (a ++ b) = tsum a + tsum b
  | [], b => by simp [tsum]
  | x :: a, b => by rw [List.cons_append, tsum, tsum, tsum_append a b]; omega
theorem tot_sum : ∀ l : List Int, totTo l l.length = tsum l
  | [] => rfl
  | a :: l => by
    unfold totTo
    rw [List.length_cons, sumTo_shift, tsum, ← tot_sum l]
    have : sumTo (fun i => at1 (a :: l) (i + 1)) l.length = sumTo (at1 l) l.length := sumTo_congr _ (fun i _ => by simp [at1])
    rw [this]
    simp [at1, totTo]
def rot (l : List Int) (k : Nat) : List Int := l.drop k ++ l.take k
theorem rot_len (l : List Int) (k : Nat) : (rot l k).length = l.length := by simp [rot]; omega
theorem rot_sum (l : List Int) (k : Nat) : tsum (rot l k) = tsum l := by
  have h := tsum_append (l.take k) (l.drop k)
  rw [List.take_append_drop] at h
  rw [rot, tsum_append, h]
  omega
theorem allA_mem {l : List Int} : allA l l.length ↔ ∀ x ∈ l, amtB x = true := by
  constructor
  · intro h x hx
    obtain ⟨i, hi, rfl⟩ := List.mem_iff_getElem.1 hx
    have := h i hi
    simpa [at1, hi] using this
  · intro h i hi
    exact h _ (at1_mem l i hi)
theorem rot_all {l : List Int} {k : Nat} (h : allA l l.length) : allA (rot l k) (rot l k).length := allA_mem.2 (fun x hx => by
  rcases List.mem_append.1 hx with h1 | h1
  · exact allA_mem.1 h x (List.mem_of_mem_drop h1)
  · exact allA_mem.1 h x (List.mem_of_mem_take h1))
theorem sum_year {t : TF} {c : Int} {xl : List Int} {n : Nat} : ∀ k, k ≤ n → sumTo (at1 (yrTo t c xl n)) k = dAt t c xl k
  | 0, _ => rfl
  | k + 1, h => by
    show sumTo (at1 (yrTo t c xl n)) k + at1 (yrTo t c xl n) k = _
    rw [sum_year k (by omega), yrTo_at t c xl n k (by omega)]
    omega
theorem due_all {t : TF} {n : Nat} {tot : Int} (hv : tvB t = true) (h1 : 1 ≤ n) : dueX t n n tot = annX t tot := by
  have hf := tv_facts hv
  unfold dueX annX
  rw [scale_one hf.1 (by omega), Int.mul_ediv_cancel _ (by omega), Int.mul_ediv_cancel _ (by omega)]
/-- the rotated incomes -/
def RotP (w4 : World) (yl : List Int) (v : Value) (wx : World) : Prop := ∃ A c, v = .slice A yl.length c ∧ OwnI wx w4.heap.size A c yl ∧ Below w4.heap.size w4 wx
theorem drop_cells {W : World} {b k : Nat} {l : List Int} (h : ∀ j, j < l.length → W.cell? ⟨b, j, none⟩ = some (.int .i64 (at1 l j))) : ∀ j u, ((l.drop k).map (Value.int .i64))[j]? = some u → W.cell? ((⟨b, k, none⟩ : Addr).add j) = some u := by
  intro j u hu
  rw [List.getElem?_map, Option.map_eq_some_iff] at hu
  obtain ⟨x, hx, rfl⟩ := hu
  rw [List.getElem?_drop] at hx
  have hl : k + j < l.length := (List.getElem?_eq_some_iff.1 hx).1
  rw [Go.WideShapes.add_plain, h (k + j) hl]
  simp [at1, hx]
theorem take_cells {W : World} {b k : Nat} {l : List Int} (h : ∀ j, j < l.length → W.cell? ⟨b, j, none⟩ = some (.int .i64 (at1 l j))) : ∀ j u, ((l.take k).map (Value.int .i64))[j]? = some u → W.cell? ((⟨b, 0, none⟩ : Addr).add j) = some u := by
  intro j u hu
  rw [List.getElem?_map, Option.map_eq_some_iff] at hu
  obtain ⟨x, hx, rfl⟩ := hu
  have hx' := hx
  rw [List.getElem?_take] at hx'
  split at hx'
  · have hl : j < l.length := (List.getElem?_eq_some_iff.1 hx').1
    rw [Go.WideShapes.add_plain, Nat.zero_add, h j hl]
    simp [at1, hx']
  · cases hx'
theorem step_append_e {P : Program} (w : World) {ops : Array Oper} {o : Oper} {a : Act} {K : Act → World → Prop} {Q : Exit → Act → World → Prop} {X : Prop} (hgd : o.guard = none) (s x : Operand) (t : TypeId)
    (ho : o.op = .call { callee := .builtin .append, args := #[s, x], argTypes := #[t, t] })
    (base : Nat) (e : TypeId) (i : TypeInfo) (z : Value) (size bytes : Nat) (ht : P.underlying t = some (.slice e)) (hi : P.info? e = some i) (hz : i.zero = some z)
    (hsize : i.size = size) (hby : i.bytes = bytes) (hzs : z.cells.size = size) (hsz : 0 < size)
    (A : Option Addr) (c : Nat) (hs : a.eval s = .slice A 0 c) (hown : w.ownsRow base e size (.slice A 0 c) 0 [])
    (ad : Addr) (m c2 : Nat) (news : List Value) (hx : a.eval x = .slice (some ad) m c2) (hl : news.length = m * size) (hnews : ∀ j u, news[j]? = some u → w.cell? (ad.add j) = some u) (h1 : ∀ u ∈ news, u.oneCell' = true)
    (h63 : m ≤ maxLen) (hbytes : m * bytes ≤ 140737488355328) (hbase : base ≤ w.heap.size)
    (h : ∀ A' c' w', w'.ownsRow base e size (.slice A' m c') m news → Below base w w' → K (a.put o.dst (.slice A' m c')) w') : if Region.wanted o (yielded ops a.tmps) = true then Oper.wp P o a w K Q else X :=
  step_append_sl w hgd s x t ho base e i z size bytes ht hi hz hsize hby hzs hsz A c 0 [] hs hown ad m c2 news hx hl hnews h1 (by omega) (by simpa using hbytes) hbase (fun A' c' w' g1 g2 _ => by
    rw [Nat.zero_add, List.nil_append] at g1
    rw [Nat.zero_add]
    exact h A' c' w' g1 g2)
theorem rot_fin {w4 W W' : World} {xl : List Int} {k n : Nat} {A : Option Addr} {c : Nat} (hxn : xl.length = n) (hk : k < n) (hb : Below w4.heap.size w4 W) (hb2 : Below w4.heap.size W W') (ho : W'.ownsRow w4.heap.size 3 1 (.slice A (n - k + k) c) (n - k + k) ((xl.drop k).map (Value.int .i64) ++ (xl.take k).map (Value.int .i64))) : RotP w4 (rot xl k) (.slice A n c) W' := by
  have hl : (rot xl k).length = n := by rw [rot_len]; exact hxn
  rw [show n - k + k = n by omega] at ho
  refine ⟨A, c, by rw [hl], ?_, hb.trans hb2⟩
  unfold OwnI
  rw [hl, rot, List.map_append]
  exact ho
/-- a good year, its length written as n -/
theorem year_ok_any (t : TF) (L : TL) (W : World) (hr : RdT W W.heap.size L t) (hv : tvB t = true) (n : Nat) (h1 : 1 ≤ n) (h12 : n ≤ 12) (A : Option Addr) (m : Nat) (xs : List Int) (hx : RdI W W.heap.size A xs) (hl : xs.length = n) (ha : allA xs xs.length) :
    Calls Try.prog 26 #[.agg #[.int .i64 t.m, .slice L.Ab t.bk.length L.nb, .int .i64 t.al, .int .i64 t.cr, .int .i64 t.un, .int .i64 t.mo, .slice L.Ar t.rw.length L.nr], .int .i64 (n : Int), .slice A n m] W (fun e w' => ∃ A' m', e = .returned (.tuple #[.slice A' n m', .int .i64 0]) ∧ Below W.heap.size W w' ∧ RdI w' w'.heap.size A' (yrTo t n xs n)) := by
  have h := year_any t L W hr n A m xs hx (by omega)
  have hE : yrE t n xs = 0 := yr_ok hv ⟨by omega, by omega, by omega⟩ ha
  have hK : yrL t n xs = yrTo t n xs n := by unfold yrL; rw [if_pos hE, hl]
  rw [hl] at h
  refine Calls.mono h ?_
  rintro e w' ⟨A', m', g1, g2, g3⟩
  rw [hE, hK, yrTo_len] at g1
  rw [hK] at g3
  exact ⟨A', m', g1, g2, g3⟩
theorem RotP.drew {w4 W : World} {yl : List Int} {v : Value} (h : RotP w4 yl v W) : RotP w4 yl v W.drew := by
  obtain ⟨A, c, h1, h2, h3⟩ := h
  exact ⟨A, c, h1, h2, below_drewN h3 1⟩
theorem ownE_lit (w : World) (base : Nat) (hb : base ≤ w.heap.size) : (w.alloc (.cells #[] 3)).ownsRow base 3 1 (.slice (some ⟨w.heap.size, 0, none⟩) 0 0) 0 [] := World.ownsRow_lit w #[] 0 hb (by simp [maxLen]) rfl
set_option maxHeartbeats 3200000 in
set_option maxRecDepth 100000 in
theorem withholdingSums_walk (A0 : Option Addr) (c0 : Nat) (l0 : List Int) (turn : Int) (w : World) (hr0 : RdI w w.heap.size A0 l0) (hl0 : l0.length ≤ 9223372036854775807) (hb0 : ∀ i, i < l0.length → InR (at1 l0 i)) (h1 : InR turn) :
    Calls Try.prog 9 #[.slice A0 l0.length c0, .int .i64 turn] w (RetB true w) := by
  clear hb0
  go_enter Try.func9, Try.ntmps9
  clear h1
  go_wp2_with fail
  refine (new_any A0 c0 l0 w hr0 hl0).mono ?_
  rintro e w1 ⟨rfl, hb1, hD1, hs1⟩
  have HB1 := Lib.hid hb1
  have HD1 := Lib.hid hD1
  clear hb1 hD1 hr0
  go_wp2_with fail
  refine (tariff3_any w.heap.size 0 _ HD1.out (by omega)).mono ?_
  rintro e w2 ⟨t, L, rfl, hv, hrt, hna, hnr, ho, hD2⟩
  have HLW := Lib.hid (LW.start HB1.out hs1 ho hD2 hrt hna hnr)
  have HV := Lib.hid hv
  have hw2 : w.heap.size < w2.heap.size := by have := ho.size; omega
  clear hv hrt hna hnr ho hD2 HB1 HD1
  go_wp2_with fail
  refine (pick_at w.heap.size (0 + 40) [12, 4, 1, 7] _ 3 4 _ (by simp) HLW.out.deck (by omega) (by decide) (by decide)).mono ?_
  rintro e w3 ⟨c, rfl, hx, ho, hD'⟩
  have HLW := Lib.hid (HLW.out.draw ho hD')
  obtain ⟨n, rfl⟩ : ∃ n : Nat, c = (n : Int) := ⟨c.toNat, by simp at hx; omega⟩
  have hn : 1 ≤ n ∧ n ≤ 12 := by simp at hx; omega
  clear hx ho hD'
  go_wp2_with fail
  have hg3 := HLW.out.deck.lt
  refine (bases_any n (by omega) w.heap.size (0 + 40 + 1) _ HLW.out.deck (by omega)).mono ?_
  rintro e w4 ⟨Ax, nx, xl, rfl, hxl, hxa, hown, ho, hD'⟩
  have HLW := Lib.hid (HLW.out.draw ho hD')
  have HXL := Lib.hid hxl
  have HXA := Lib.hid hxa
  have HX := Lib.hid (own_rdI hown)
  obtain ⟨b, rfl, hcap, hbw⟩ : ∃ b, Ax = some ⟨b, 0, none⟩ ∧ xl.length ≤ nx ∧ b < w4.heap.size := by
    rcases hown.2 with ⟨e1, e2⟩ | ⟨g, cap, cur, e1, _, e3, e4, _⟩
    · omega
    · injection e1 with e1 _ e5
      subst e1 e5
      exact ⟨g, rfl, e4, (World.ownsRow.lt hown g rfl).2⟩
  have hxn : xl.length = n := hxl
  clear hxl hxa hown ho hD' hg3
  go_wp2_with fail
  refine (mod_any turn (n : Int) _ (by omega) (by omega)).mono ?_
  rintro e wm ⟨rfl, rfl⟩
  have hq0 : 0 ≤ turn % (n : Int) := Int.emod_nonneg _ (by omega)
  have hq1 : turn % (n : Int) < n := Int.emod_lt_of_pos _ (by omega)
  obtain ⟨k, hk⟩ : ∃ k : Nat, turn % (n : Int) = (k : Int) := ⟨(turn % (n : Int)).toNat, by omega⟩
  rw [hk]
  have hkn : k < n := by omega
  clear hk hq0 hq1
  have HCX : Hid (∀ W, Below w4.heap.size w4 W → ∀ j, j < xl.length → W.cell? ⟨b, j, none⟩ = some (.int .i64 (at1 xl j))) := Lib.hid (fun W h j hj => by
    obtain ⟨b1, o1, e1, _, e2⟩ := HX.out.at_ hj
    injection e1 with e1
    injection e1 with e1 e3
    subst e1 e3
    rw [Nat.zero_add] at e2
    exact (h.cell (p := ⟨b, j, none⟩) hbw).trans e2)
  go_upto_region 6 with (fail)
  have hki : (0 : Int) ≤ (k : Int) := by omega
  have hkm : (k : Int) ≤ (n : Int) := by omega
  have hkc : (k : Int) ≤ (nx : Int) := by omega
  have hnc : (n : Int) ≤ (nx : Int) := by omega
  have hkm' : k ≤ n := by omega
  have hnk : ¬ nx = k := by omega
  have hkc' : k ≤ nx := by omega
  have hnc' : n ≤ nx := by omega
  obtain ⟨i0, hi, hz0, hz1, hz2⟩ := info_parts infoInt
  have HL1 : Hid (((xl.drop k).map (Value.int .i64)).length = (n - k) * 1) := Lib.hid (by simp [hxn])
  have HL2 : Hid (((xl.take k).map (Value.int .i64)).length = k * 1) := Lib.hid (by simp [hxn]; omega)
  have HM1 : Hid (n - k ≤ maxLen ∧ (n - k) * 8 ≤ 140737488355328 ∧ n - k + k ≤ maxLen ∧ (n - k + k) * 8 ≤ 140737488355328) := Lib.hid ⟨by unfold maxLen; omega, by omega, by unfold maxLen; omega, by omega⟩
  have HB0 : Hid (∀ o, Below w4.heap.size w4 (w4.alloc o)) := Lib.hid (fun o => (Below.refl _ _).alloc (Nat.le_refl _) o)
  have HOE := Lib.hid (ownE_lit w4 w4.heap.size (Nat.le_refl _))
  go_cut [10] (fun v wx => RotP w4 (rot xl k) v wx)
  case first =>
    go_region_held3 (fun W => True) (trivial)
      (first | (refine step_append_e _ rfl _ _ 22 rfl w4.heap.size 3 i0 _ 1 8 Try.underlying22 hi hz0 hz1 hz2 rfl Nat.one_pos (some ⟨w4.heap.size, 0, none⟩) 0 rfl ?_ ⟨b, k, none⟩ (n - k) (nx - k) ((xl.drop k).map (Value.int .i64)) rfl HL1.out ?_ (ints_one _) HM1.out.1 HM1.out.2.1 ?_ ?_; exact HOE.out; (first | exact drop_cells (HCX.out _ (HB0.out _)) | exact drop_cells (HCX.out _ (below_drewN (HB0.out _) 1))); (first | exact (HB0.out _).size | exact (below_drewN (HB0.out _) 1).size); intro A6 c6 w6 hown6 hb6; have HO6 := Lib.hid hown6; (first | (have HB6 := Lib.hid ((HB0.out _).trans hb6)) | (have HB6 := Lib.hid ((below_drewN (HB0.out _) 1).trans hb6))); clear hown6 hb6)
             | (refine step_append_sl _ rfl _ _ 22 rfl w4.heap.size 3 i0 _ 1 8 Try.underlying22 hi hz0 hz1 hz2 rfl Nat.one_pos A6 c6 (n - k) ((xl.drop k).map (Value.int .i64)) rfl ?_ ⟨b, 0, none⟩ k nx ((xl.take k).map (Value.int .i64)) rfl HL2.out ?_ (ints_one _) HM1.out.2.2.1 HM1.out.2.2.2 ?_ ?_; exact HO6.out; (first | exact take_cells (HCX.out _ HB6.out) | exact take_cells (HCX.out _ (below_drewN HB6.out 1))); (first | exact HB6.out.size | exact (below_drewN HB6.out 1).size); intro A7 c7 w7 hown7 hb7 hgr7; (first | (have HR7 := Lib.hid (rot_fin hxn hkn HB6.out hb7 hown7)) | (have HR7 := Lib.hid (rot_fin hxn hkn (below_drewN HB6.out 1) hb7 hown7))); clear hown7 hb7 hgr7))
    all_goals go_wp2_with fail
    all_goals go_meet
    all_goals (first | exact HR7.out | exact HR7.out.drew)
  case rest =>
    obtain ⟨Ay, ny, hvy, howny, hby⟩ := hcut
    have hyl : (rot xl k).length = n := by rw [rot_len]; exact hxn
    rw [hyl] at hvy
    subst hvy
    have HLW := Lib.hid (HLW.out.calc_ hby)
    have HX := Lib.hid (prd_calc HX.out hby)
    have HYR := Lib.hid (own_rdI howny)
    have HYA : Hid (allA (rot xl k) (rot xl k).length) := Lib.hid (rot_all HXA.out)
    have HYS : Hid (totTo (rot xl k) n = totTo xl n) := Lib.hid (by
      have e1 := tot_sum (rot xl k)
      have e2 := tot_sum xl
      rw [hyl, rot_sum] at e1
      rw [hxn] at e2
      rw [e1, e2])
    have HYL := Lib.hid hyl
    clear howny hby hyl HL1 HL2 HM1 HB0 HOE HCX hki hkm hkc hnc hkm' hkc' hnc' hnk hcap hi hz0 hz1 hz2
    generalize rot xl k = yl at *
    have x0 := HLW.out.box.cell 0
    have x1 := HLW.out.box.cell 1
    have x2 := HLW.out.box.cell 2
    have x3 := HLW.out.box.cell 3
    have x4 := HLW.out.box.cell 4
    have x5 := HLW.out.box.cell 5
    have x6 := HLW.out.box.cell 6
    simp at x0 x1 x2 x3 x4 x5 x6
    go_wp2_with fail
    refine (year_ok_any t L _ HLW.out.rd HV.out n hn.1 hn.2 (some ⟨b, 0, none⟩) nx xl HX.out hxn HXA.out).mono ?_
    rintro e w6 ⟨A6, n6, rfl, hb, hr⟩
    have HLW := Lib.hid (HLW.out.calc_ hb)
    have HK1 := Lib.hid hr
    have HX := Lib.hid (prd_calc HX.out hb)
    have HYR := Lib.hid (prd_calc HYR.out hb)
    clear hb hr x0 x1 x2 x3 x4 x5 x6
    have x0 := HLW.out.box.cell 0
    have x1 := HLW.out.box.cell 1
    have x2 := HLW.out.box.cell 2
    have x3 := HLW.out.box.cell 3
    have x4 := HLW.out.box.cell 4
    have x5 := HLW.out.box.cell 5
    have x6 := HLW.out.box.cell 6
    simp at x0 x1 x2 x3 x4 x5 x6
    go_wp2_with fail
    refine (year_ok_any t L _ HLW.out.rd HV.out n hn.1 hn.2 Ay ny yl HYR.out HYL.out HYA.out).mono ?_
    rintro e w7 ⟨A7, n7, rfl, hb, hr⟩
    have HLW := Lib.hid (HLW.out.calc_ hb)
    have HK2 := Lib.hid hr
    have HX := Lib.hid (prd_calc HX.out hb)
    have HK1 := Lib.hid (prd_calc HK1.out hb)
    clear hb hr x0 x1 x2 x3 x4 x5 x6
    have HALX : Hid (∀ k, k ≤ n → allA xl k) := Lib.hid (fun k hk i hi => HXA.out i (by omega))
    have HALY : Hid (∀ k, k ≤ n → allA yl k) := Lib.hid (fun k hk i hi => HYA.out i (by have := HYL.out; omega))
    have HD1 : Hid (dAt t n xl n = annX t (totTo xl n)) := Lib.hid (by unfold dAt; rw [if_neg (by omega)]; exact due_all HV.out hn.1)
    have HD2 : Hid (dAt t n yl n = annX t (totTo xl n)) := Lib.hid (by unfold dAt; rw [if_neg (by omega), HYS.out]; exact due_all HV.out hn.1)
    have HA1 : Hid (∀ j, j < n → at1 (yrTo t n xl n) j = dAt t n xl (j + 1) - dAt t n xl j) := Lib.hid (fun j hj => yrTo_at t n xl n j hj)
    have HA2 : Hid (∀ j, j < n → at1 (yrTo t n yl n) j = dAt t n yl (j + 1) - dAt t n yl j) := Lib.hid (fun j hj => yrTo_at t n yl n j hj)
    have HK1L := Lib.hid (yrTo_len t n xl n)
    have HK2L := Lib.hid (yrTo_len t n yl n)
    generalize yrTo t n xl n = K1 at *
    generalize yrTo t n yl n = K2 at *
    have t1 : ((n : Int) != (n : Int)) = false := by simp
    go_wp2
    clear t1
    go_loopw [15, 16, 17, 18] (fun v15 v16 v17 i wr => ∃ j : Nat, j ≤ n ∧ i = .int .i64 j ∧ v15 = .int .i64 (totTo xl j) ∧ v16 = .int .i64 (dAt t n xl j) ∧ v17 = .int .i64 (dAt t n yl j) ∧ LW w w.heap.size (0 + 40 + 1 + 5 * n) w2.heap.size t L wr ∧ RdI wr wr.heap.size (some ⟨b, 0, none⟩) xl ∧ RdI wr wr.heap.size A6 K1 ∧ RdI wr wr.heap.size A7 K2) (fun _ _ _ i _ => n - (intOf i).toNat)
    case atStart => exact ⟨0, Nat.zero_le _, rfl, rfl, rfl, rfl, HLW.out, HX.out, HK1.out, HK2.out⟩
    case round =>
      obtain ⟨j, hj, rfl, rfl, rfl, rfl, hlw, hx, hk1, hk2⟩ := hrel
      have HLW := Lib.hid hlw
      have HX := Lib.hid hx
      have HK1 := Lib.hid hk1
      have HK2 := Lib.hid hk2
      clear hlw hx hk1 hk2
      by_cases hlt : j < n
      · obtain ⟨bx, ox, hbe, _, e1⟩ := HX.out.at_ (i := j) (by omega)
        injection hbe with hbe
        injection hbe with hbe1 hbe2
        subst hbe1 hbe2
        rw [Nat.zero_add] at e1
        obtain ⟨b1, o1, rfl, _, e2⟩ := HK1.out.at_ (i := j) (by have := HK1L.out; omega)
        obtain ⟨b2, o2, rfl, _, e3⟩ := HK2.out.at_ (i := j) (by have := HK2L.out; omega)
        have ht0 := tot_bd j (HALX.out j (by omega))
        have hta := amt_iff.1 (HALX.out (j + 1) (by omega) j (by omega))
        have d0 := dAt_bd (c := n) HV.out (by omega) (by omega) (k := j) (by omega) (HALX.out j (by omega))
        have d1 := dAt_bd (c := n) HV.out (by omega) (by omega) (k := j + 1) (by omega) (HALX.out (j + 1) (by omega))
        have f0 := dAt_bd (c := n) HV.out (by omega) (by omega) (k := j) (by omega) (HALY.out j (by omega))
        have f1 := dAt_bd (c := n) HV.out (by omega) (by omega) (k := j + 1) (by omega) (HALY.out (j + 1) (by omega))
        have a1 := HA1.out j hlt
        have a2 := HA2.out j hlt
        have HT1 : Hid (totTo xl (j + 1) = totTo xl j + at1 xl j) := Lib.hid rfl
        generalize hD1 : dAt t n xl (j + 1) = D1 at *
        have HE1 := Lib.hid hD1
        clear hD1
        generalize hF1 : dAt t n yl (j + 1) = F1 at *
        have HE2 := Lib.hid hF1
        clear hF1
        generalize totTo xl j = T0 at *
        generalize dAt t n xl j = D0 at *
        generalize dAt t n yl j = F0 at *
        generalize at1 xl j = X0 at *
        generalize at1 K1 j = Y0 at *
        generalize at1 K2 j = Z0 at *
        have HS1 : Hid (D0 + Y0 = D1) := Lib.hid (by omega)
        have HS2 : Hid (F0 + Z0 = F1) := Lib.hid (by omega)
        have hk1 : (0 : Int) ≤ (j : Int) := by omega
        have hk2 : (j : Int) < (n : Int) := by omega
        have HI : Hid (IntKind.i64.wrap (T0 + X0) = T0 + X0 ∧ IntKind.i64.wrap (D0 + Y0) = D0 + Y0 ∧ IntKind.i64.wrap (F0 + Z0) = F0 + Z0) := Lib.hid ⟨IntWalk.i64_in _ (by omega), IntWalk.i64_in _ (by omega), IntWalk.i64_in _ (by omega)⟩
        clear a1 a2
        go_wp2
        obtain ⟨i1, i2, i3⟩ := HI.out
        clear HI
        go_quiet (fail)
        have HLW := Lib.hid (HLW.out.calc_ (below_drewN (Below.refl _ _) nq))
        have HX := Lib.hid (prd_calc HX.out (below_drewN (Below.refl _ _) nq))
        have HK1 := Lib.hid (prd_calc HK1.out (below_drewN (Below.refl _ _) nq))
        have HK2 := Lib.hid (prd_calc HK2.out (below_drewN (Below.refl _ _) nq))
        clear i1 i2 i3 e1 e2 e3
        go_wp2
        go_roundw
        case rel => exact ⟨j + 1, by omega, by go_num, by rw [HT1.out], by rw [HE1.out, HS1.out], by rw [HE2.out, HS2.out], HLW.out, HX.out, HK1.out, HK2.out⟩
        case measure => simp [intOf]; omega
      · obtain rfl : j = n := by omega
        have htn := tot_bd j (HALX.out j (by omega))
        have HAN : Hid (∀ W, RdT W W.heap.size L t → Calls Try.prog 32 #[.agg #[.int .i64 t.m, .slice L.Ab t.bk.length L.nb, .int .i64 t.al, .int .i64 t.cr, .int .i64 t.un, .int .i64 t.mo, .slice L.Ar t.rw.length L.nr], .int .i64 (totTo xl j)] W (RetII (annX t (totTo xl j)) 0 W)) := Lib.hid (fun W h => by
          have h1 := annual_any t L W.heap.size W h (Nat.le_refl _) (totTo xl j)
          have h2 := if_ok (x := annX t (totTo xl j)) (c := 2) HV.out (show annP (totTo xl j) from ⟨by omega, by omega⟩)
          rw [show annV t (totTo xl j) = annX t (totTo xl j) from h2.1, show annE t (totTo xl j) = 0 from h2.2] at h1
          exact h1)
        have q1 : (dAt t j xl j == annX t (totTo xl j)) = true := by rw [HD1.out]; simp
        have q2 : (dAt t j yl j == annX t (totTo xl j)) = true := by rw [HD2.out]; simp
        clear HD1 HD2 htn HA1 HA2 HYS
        generalize dAt t j xl j = P1 at *
        generalize dAt t j yl j = P2 at *
        generalize annX t (totTo xl j) = Q1 at *
        generalize totTo xl j = T0 at *
        have x0 := HLW.out.box.cell 0
        have x1 := HLW.out.box.cell 1
        have x2 := HLW.out.box.cell 2
        have x3 := HLW.out.box.cell 3
        have x4 := HLW.out.box.cell 4
        have x5 := HLW.out.box.cell 5
        have x6 := HLW.out.box.cell 6
        simp at x0 x1 x2 x3 x4 x5 x6
        go_wp2_with fail
        refine (HAN.out _ HLW.out.rd).mono ?_
        rintro e w8 ⟨rfl, hb8⟩
        have HLW := Lib.hid (HLW.out.calc_ hb8)
        clear hb8 x0 x1 x2 x3 x4 x5 x6
        go_wp2_with fail
        refine (awake_any _).mono ?_
        rintro e w9 ⟨rfl, hb9⟩
        have HLW := Lib.hid (HLW.out.calc_ hb9)
        clear hb9
        go_wp2
        go_ret
        exact ⟨rfl, HLW.out.below⟩
end Go.Proofs.Ytcincmlpegnaiaa
