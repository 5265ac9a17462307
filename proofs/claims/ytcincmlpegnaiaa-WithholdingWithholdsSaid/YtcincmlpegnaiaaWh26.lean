/-
  Chapter 30: drawn years (paygen.Year): a year whose sums are in range.
-/
import Derived.Test.YtcincmlpegnaiaaWh25
import Derived.Test.YtcincmlpegnaiaaWh24b
import Derived.Deep.RegionWith
import Derived.Deep.DeepCutAuto
namespace Go.Proofs.Ytcincmlpegnaiaa
open Go.RowKit
set_option linter.unusedVariables false
set_option linter.unusedSimpArgs false

structure QY (w : World) (g : Nat) (N : Int) (yb : Nat) (ys : Array Value) (W : World) : Prop where
  deck : Deck W g N
  on : Only g w W
  rv : Blk W w.heap.size 25 #[.int .i64 0, .int .i64 0, .int .i64 0, .slice none 0 0, .slice none 0 0]
  yv : Blk W yb 25 ys
  hg : g < w.heap.size
  hy : w.heap.size < yb
section
variable {w W W' : World} {g yb : Nat} {N N' : Int} {ys : Array Value}
theorem QY.next (h : QY w g N yb ys W) (ho : Only g W W') (hD : Deck W' g N') : QY w g N' yb ys W' := ⟨hD, h.on.trans ho, h.rv.grown ho (by have := h.hg; intro e; injection e; omega), h.yv.grown ho (by have := h.hg; have := h.hy; intro e; injection e; omega), h.hg, h.hy⟩
theorem QY.drew (h : QY w g N yb ys W) : QY w g N yb ys W.drew := ⟨h.deck.drewN 1, h.on.drew, h.rv, h.yv, h.hg, h.hy⟩
theorem QY.set (h : QY w g N yb ys W) (i : Nat) (v : Value) : QY w g N yb (ys.setIfInBounds i v) (W.setCell ⟨yb, i, none⟩ v) := by
  have h1 := h.hg
  have h2 := h.hy
  exact ⟨h.deck.only ((Only.refl yb W).setCell (p := ⟨yb, i, none⟩) (.inl rfl) v) (by omega), h.on.setCell (.inr (by show w.heap.size ≤ yb; omega)) v, h.rv.far (by show w.heap.size ≠ yb; omega) v, h.yv.set_ i v, h.hg, h.hy⟩
end
theorem year_more {w W : World} {g yb : Nat} {N N' : Int} {ys : Array Value} (h : QY w g N yb ys W) (hN : N ≤ N') : QY w g N' yb ys W := ⟨h.deck.more hN, h.on, h.rv, h.yv, h.hg, h.hy⟩
def YearPost (n : Nat) (g : Nat) (N : Int) (w : World) (e : Ending) (w' : World) : Prop :=
  ∃ yi yw Y3 m3 k3 Y4 m4 k4, e = .returned (.agg #[.int .i64 (n : Int), .int .i64 yi, .int .i64 yw, .slice Y3 m3 k3, .slice Y4 m4 k4]) ∧ Only g w w' ∧ Deck w' g N
theorem put5_only (W : World) (r : Nat) (a b c d e : Value) : Only r W (((((W.setCell ⟨r, 0, none⟩ a).setCell ⟨r, 1, none⟩ b).setCell ⟨r, 2, none⟩ c).setCell ⟨r, 3, none⟩ d).setCell ⟨r, 4, none⟩ e) :=
  (((((Only.refl r W).setCell (p := ⟨r, 0, none⟩) (.inl rfl) _).setCell (p := ⟨r, 1, none⟩) (.inl rfl) _).setCell (p := ⟨r, 2, none⟩) (.inl rfl) _).setCell (p := ⟨r, 3, none⟩) (.inl rfl) _).setCell (p := ⟨r, 4, none⟩) (.inl rfl) _
theorem year_fin {w W W' : World} {g yb n : Nat} {N M : Int} {ys : Array Value} (h : QY w g M yb ys W) (hM : M ≤ N) (ho : Only w.heap.size W W') (yi yw : Int) (Y3 : Option Addr) (m3 k3 : Nat) (Y4 : Option Addr) (m4 k4 : Nat) : YearPost n g N w (.returned (.agg #[.int .i64 (n : Int), .int .i64 yi, .int .i64 yw, .slice Y3 m3 k3, .slice Y4 m4 k4])) W' := by
  have hg := h.hg
  exact ⟨yi, yw, Y3, m3, k3, Y4, m4, k4, rfl, ⟨ho.os.trans h.on.os, ho.tape.trans h.on.tape, ho.output.trans h.on.output, Nat.le_trans h.on.size ho.size, fun i hi hne => (ho.block i (Nat.lt_of_lt_of_le hi h.on.size) (by intro e; injection e; omega)).trans (h.on.block i hi hne)⟩, (h.deck.only ho hg).more hM⟩

set_option maxHeartbeats 1600000 in
theorem yearG_any (n : Nat) (hn : n ≤ 53) (g : Nat) (N : Int) (w : World) (hD : Deck w g N) (hN : N ≤ 600000) :
    Calls Try.prog 16 #[.pointer (some ⟨g, 0, none⟩), .int .i64 (n : Int)] w (YearPost n g (N + 500) w) := by
  have hgl := hD.lt
  have HD := Lib.hid hD
  have HRV := Lib.hid (Blk.new w 25 #[.int .i64 0, .int .i64 0, .int .i64 0, .slice none 0 0, .slice none 0 0])
  clear hD
  go_enter Try.func16, Try.ntmps16
  go_wp2_with fail
  refine (bases_any n (by omega) g N _ (HD.out.alloc _) (by omega)).mono ?_
  rintro e w1 ⟨Y3, k3, l3, rfl, hl3, -, -, ho, hD'⟩
  have HRV := Lib.hid (HRV.out.grown ho (by intro e; injection e; omega))
  have HON : Hid (Only g w w1) := Lib.hid (((Only.refl g w).alloc _).trans ho)
  have HD1 := Lib.hid hD'
  clear ho hD' HD hl3
  go_wp2_with fail
  refine (record_any g (N + 5 * n) _ HD1.out (by omega)).mono ?_
  rintro e w2 ⟨Y4, m4, k4, rfl, ho, hD'⟩
  have HRV := Lib.hid (HRV.out.grown ho (by intro e; injection e; omega))
  have HON := Lib.hid (HON.out.trans ho)
  have HD2 := Lib.hid hD'
  have hrl := HRV.out.lt
  clear ho hD' HD1
  generalize l3.length = m3 at *
  have HQ0 : Hid (QY w g (N + 5 * n + 16) w2.heap.size #[.int .i64 (n : Int), .int .i64 0, .int .i64 0, .slice Y3 m3 k3, .slice Y4 m4 k4] (w2.alloc (.cells #[.int .i64 (n : Int), .int .i64 0, .int .i64 0, .slice Y3 m3 k3, .slice Y4 m4 k4] 25))) := Lib.hid ⟨HD2.out.alloc _, HON.out.alloc _, HRV.out.alloc _, Blk.new _ _ _, hgl, hrl⟩
  obtain ⟨yb, hyb⟩ : ∃ b, b = w2.heap.size := ⟨_, rfl⟩
  rw [← hyb] at HQ0
  clear HRV HON HD2
  go_wp2
  rw [← hyb]
  have hry : w.heap.size < yb := by omega
  have hn1 : ¬ w.heap.size = yb := by omega
  have hn2 : ¬ yb = w.heap.size := by omega
  clear hyb hrl
  go_loopw [6] (fun i wr => ∃ (j : Nat) (yi yw : Int), j ≤ n ∧ i = .int .i64 j ∧ 0 ≤ yi ∧ yi ≤ 600000 * j ∧ 0 ≤ yw ∧ yw ≤ 60000 * j ∧ QY w g (N + 5 * n + 16 + 3 * j) yb #[.int .i64 (n : Int), .int .i64 yi, .int .i64 yw, .slice Y3 m3 k3, .slice Y4 m4 k4] wr) (fun i _ => n - (intOf i).toNat)
  case atStart => exact ⟨0, 0, 0, Nat.zero_le _, rfl, by omega, by omega, by omega, by omega, by simpa using HQ0.out⟩
  case round =>
    obtain ⟨j, yi, yw, hj, rfl, hi0, hi1, hw0, hw1, hq⟩ := hrel
    have HQ := Lib.hid hq
    clear hq HQ0
    by_cases hlt : j < n
    · have HSM : Hid (∀ W, QY w g (N + 5 * n + 16 + 3 * j) yb #[.int .i64 (n : Int), .int .i64 yi, .int .i64 yw, .slice Y3 m3 k3, .slice Y4 m4 k4] W → Calls Try.prog 18 #[.pointer (some ⟨g, 0, none⟩)] W (fun e w' => ∃ v, e = .returned (.int .i64 v) ∧ (0 ≤ v ∧ v < 600000) ∧ QY w g (N + 5 * n + 16 + 3 * j + 2) yb #[.int .i64 (n : Int), .int .i64 yi, .int .i64 yw, .slice Y3 m3 k3, .slice Y4 m4 k4] w')) := Lib.hid (fun W h => (small_any g (N + 5 * n + 16 + 3 * j) W h.deck (by omega)).mono (by
        rintro e w' ⟨v, e1, e2, e3, e4⟩
        exact ⟨v, e1, e2, h.next e3 e4⟩))
      have HI : Hid (∀ v, 0 ≤ v ∧ v < 600000 → IntKind.i64.wrap (yi + v) = yi + v) := Lib.hid (fun v h => IntWalk.i64_in _ (by omega))
      have y0 := HQ.out.yv.cell 0
      have y1 := HQ.out.yv.cell 1
      have y2 := HQ.out.yv.cell 2
      have y3 := HQ.out.yv.cell 3
      have y4 := HQ.out.yv.cell 4
      have yf0 := HQ.out.yv.frozen 0
      have yf1 := HQ.out.yv.frozen 1
      have yf2 := HQ.out.yv.frozen 2
      have yf3 := HQ.out.yv.frozen 3
      have yf4 := HQ.out.yv.frozen 4
      simp at y0 y1 y2 y3 y4
      go_upto_region 5 with (fail)
      go_cut [] (fun wx => ∃ v, 0 ≤ v ∧ v < 600000 ∧ QY w g (N + 5 * n + 16 + 3 * j + 2) yb #[.int .i64 (n : Int), .int .i64 (yi + v), .int .i64 yw, .slice Y3 m3 k3, .slice Y4 m4 k4] wx)
      case first =>
        go_region_with ((go_at_call 18; refine (HSM.out _ ?_).mono ?_; (repeat (first | exact HQ.out | apply QY.drew)); rintro e w6 ⟨v6, rfl, hv6, hq6⟩; have HQ6 := Lib.hid hq6; have c6 := hq6.yv.cell 1; have f6 := hq6.yv.frozen 1; (simp at c6); have i6 := HI.out v6 hv6; clear hq6))
        all_goals clear i6
        all_goals go_wp2_with fail
        all_goals go_meet
        all_goals (have hq7 := HQ6.out.set 1 (.int .i64 (yi + v6)); simp at hq7; first | exact ⟨v6, hv6.1, hv6.2, hq7⟩ | exact ⟨v6, hv6.1, hv6.2, hq7.drew⟩)
      case rest =>
        obtain ⟨v5, hv50, hv51, hq⟩ := hcut
        have HQ := Lib.hid hq
        clear hq HSM HI y0 y1 y2 y3 y4 yf0 yf1 yf2 yf3 yf4
        generalize hyi : yi + v5 = yj at *
        have HSM : Hid (∀ W, QY w g (N + 5 * n + 16 + 3 * j + 2) yb #[.int .i64 (n : Int), .int .i64 yj, .int .i64 yw, .slice Y3 m3 k3, .slice Y4 m4 k4] W → Calls Try.prog 17 #[.pointer (some ⟨g, 0, none⟩), .int .i64 60000] W (fun e w' => ∃ v, e = .returned (.int .i64 v) ∧ (0 ≤ v ∧ v < 60000) ∧ QY w g (N + 5 * n + 16 + 3 * j + 2 + 1) yb #[.int .i64 (n : Int), .int .i64 yj, .int .i64 yw, .slice Y3 m3 k3, .slice Y4 m4 k4] w')) := Lib.hid (fun W h => (next_any g (N + 5 * n + 16 + 3 * j + 2) 60000 W h.deck (by omega) (by omega) (by omega)).mono (by
          rintro e w' ⟨v, e1, e2, e3, e4⟩
          exact ⟨v, e1, e2, h.next e3 e4⟩))
        have HI : Hid (∀ v, 0 ≤ v ∧ v < 60000 → IntKind.i64.wrap (yw + v) = yw + v) := Lib.hid (fun v h => IntWalk.i64_in _ (by omega))
        have y0 := HQ.out.yv.cell 0
        have y1 := HQ.out.yv.cell 1
        have y2 := HQ.out.yv.cell 2
        have y3 := HQ.out.yv.cell 3
        have y4 := HQ.out.yv.cell 4
        have yf0 := HQ.out.yv.frozen 0
        have yf1 := HQ.out.yv.frozen 1
        have yf2 := HQ.out.yv.frozen 2
        have yf3 := HQ.out.yv.frozen 3
        have yf4 := HQ.out.yv.frozen 4
        simp at y0 y1 y2 y3 y4
        go_upto_region 6 with (fail)
        go_region_with ((go_at_call 17; refine (HSM.out _ ?_).mono ?_; (repeat (first | exact HQ.out | apply QY.drew)); rintro e w6 ⟨v6, rfl, hv6, hq6⟩; have HQ6 := Lib.hid hq6; have c6 := hq6.yv.cell 2; have f6 := hq6.yv.frozen 2; (simp at c6); have i6 := HI.out v6 hv6; clear hq6))
        all_goals
          clear i6
          have hq7 := HQ6.out.set 2 (.int .i64 (yw + v6))
          simp at hq7
          have HQ7 := Lib.hid hq7
          clear hq7
          go_wp2
          go_roundw
          case rel => first | exact ⟨j + 1, yj, yw + v6, by omega, by go_num, by omega, by omega, by omega, by omega, year_more HQ7.out (by simp; omega)⟩ | exact ⟨j + 1, yj, yw + v6, by omega, by go_num, by omega, by omega, by omega, by omega, year_more HQ7.out.drew (by simp; omega)⟩
          case measure => simp [intOf]; omega
    · obtain rfl : j = n := by omega
      have hrl := HQ.out.rv.lt
      have y0 := HQ.out.yv.cell 0
      have y1 := HQ.out.yv.cell 1
      have y2 := HQ.out.yv.cell 2
      have y3 := HQ.out.yv.cell 3
      have y4 := HQ.out.yv.cell 4
      have yf0 := HQ.out.yv.frozen 0
      have yf1 := HQ.out.yv.frozen 1
      have yf2 := HQ.out.yv.frozen 2
      have yf3 := HQ.out.yv.frozen 3
      have yf4 := HQ.out.yv.frozen 4
      simp at y0 y1 y2 y3 y4
      have r0 := HQ.out.rv.cell 0
      have r1 := HQ.out.rv.cell 1
      have r2 := HQ.out.rv.cell 2
      have r3 := HQ.out.rv.cell 3
      have r4 := HQ.out.rv.cell 4
      have rf0 := HQ.out.rv.frozen 0
      have rf1 := HQ.out.rv.frozen 1
      have rf2 := HQ.out.rv.frozen 2
      have rf3 := HQ.out.rv.frozen 3
      have rf4 := HQ.out.rv.frozen 4
      simp at r0 r1 r2 r3 r4
      go_wp2
      refine bodyPost_ret (v := .agg #[.int .i64 (j : Int), .int .i64 yi, .int .i64 yw, .slice Y3 m3 k3, .slice Y4 m4 k4]) (by simp [results, Try.results16, go_sem, r0, r1, r2, r3, r4, hrl, hry, hn1, hn2]) rfl ?_
      exact year_fin HQ.out (by omega) (put5_only _ _ _ _ _ _ _) yi yw Y3 m3 k3 Y4 m4 k4
end Go.Proofs.Ytcincmlpegnaiaa
