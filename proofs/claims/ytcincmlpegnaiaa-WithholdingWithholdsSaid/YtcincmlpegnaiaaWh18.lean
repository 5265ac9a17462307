/-
  Chapter 30: drawn tariffs and incomes.
-/
import Derived.Test.YtcincmlpegnaiaaWh9
import Derived.Test.YtcincmlpegnaiaaWh17
namespace Go.Proofs.Ytcincmlpegnaiaa
open Go.RowKit
set_option linter.unusedVariables false
set_option linter.unusedSimpArgs false

theorem QT.set {w W : World} {g : Nat} {N : Int} (h : QT w g N W) {p : Addr} (hp : w.heap.size < p.block) (u : Value) : QT w g N (W.setCell p u) := by
  have hg := h.hg
  exact ⟨h.deck.only ((Only.refl p.block W).setCell (.inl rfl) u) (by omega), h.on.setCell (.inr (Nat.le_of_lt hp)) u, h.rv.far (by omega) u, h.hg⟩
theorem rdk {W W' : World} {A : Option Addr} {l : List (Int × Int)} {q : Nat} (h : RdP W W.heap.size A l) (ho : Only q W W') (hne : ∀ b off, A = some ⟨b, off, none⟩ → b ≠ q) : RdP W' W'.heap.size A l := Rd.more (rd_far h ho hne) ho.size
theorem rdk_set {W : World} {A : Option Addr} {l : List (Int × Int)} (h : RdP W W.heap.size A l) {p : Addr} (u : Value) (hne : ∀ b off, A = some ⟨b, off, none⟩ → b ≠ p.block) : RdP (W.setCell p u) (W.setCell p u).heap.size A l := rdk h ((Only.refl p.block W).setCell (.inl rfl) u) hne
theorem tariff_fin0 {w W W' : World} {g : Nat} {N M : Int} (t : TF) (L : TL) (hq : QT w g M W) (hMN : M ≤ N) (ho : Only w.heap.size W W') (hv : tvB t = true) (hb : RdP W W.heap.size L.Ab t.bk) (hb2 : ∀ b off, L.Ab = some ⟨b, off, none⟩ → w.heap.size < b) (hr : RdP W W.heap.size L.Ar t.rw) (hr2 : ∀ b off, L.Ar = some ⟨b, off, none⟩ → w.heap.size < b) (l1 : t.bk.length ≤ 9223372036854775807) (l2 : t.rw.length ≤ 9223372036854775807) :
    TariffPost g N w (.returned (.agg #[.int .i64 t.m, .slice L.Ab t.bk.length L.nb, .int .i64 t.al, .int .i64 t.cr, .int .i64 t.un, .int .i64 t.mo, .slice L.Ar t.rw.length L.nr])) W' := by
  have hg := hq.hg
  have hon : Only g w W' := ⟨ho.os.trans hq.on.os, ho.tape.trans hq.on.tape, ho.output.trans hq.on.output, Nat.le_trans hq.on.size ho.size, fun i hi hne => (ho.block i (Nat.lt_of_lt_of_le hi hq.on.size) (by intro e; injection e; omega)).trans (hq.on.block i hi hne)⟩
  exact ⟨t, L, rfl, hv, ⟨rdk hb ho (fun b off e => by have := hb2 b off e; omega), rdk hr ho (fun b off e => by have := hr2 b off e; omega), l1, l2⟩, fun b off e => by have := hb2 b off e; omega, fun b off e => by have := hr2 b off e; omega, hon, (hq.deck.only ho hg).more hMN⟩
set_option maxHeartbeats 1600000 in
theorem tariff0_any (g : Nat) (N : Int) (w : World) (hD : Deck w g N) (hN : N ≤ 700000) :
    Calls Try.prog 14 #[.pointer (some ⟨g, 0, none⟩), .int .i64 0] w (TariffPost g (N + 40) w) := by
  have HQ := Lib.hid (QT.start hD)
  have hgw := hD.lt
  clear hD
  go_enter Try.func14, Try.ntmps14
  go_wp2_with fail
  refine (next_any g N 3 _ HQ.out.deck (by omega) (by omega) (by omega)).mono ?_
  rintro e w1 ⟨v1, rfl, hv1, ho, hD'⟩
  have hw1 : w.heap.size < w1.heap.size := by have := ho.size; simp at this; omega
  have HQ := Lib.hid (HQ.out.next ho hD')
  clear ho hD'
  go_wp2_with fail
  refine (brackets_any _ g (N + 1) _ HQ.out.deck (by omega)).mono ?_
  rintro e w2 ⟨Ab, nb, lb, rfl, hgen, hown, ho, hD'⟩
  have hgb : g < w1.heap.size := HQ.out.deck.lt
  have HQ := Lib.hid (HQ.out.next ho hD')
  have HOW := Lib.hid hown
  have HV := Lib.hid (gen_val hgen)
  have hl4 : lb.length ≤ 4 := hgen.2.1
  clear hgen hown ho hD'
  go_wp2_with fail
  refine (pick_new g (N + 21) [0, 600000, 1200000, 7] _ 3 4 (HQ.out.deck.more (by omega)) (by omega) (by decide) (by decide)).mono ?_
  rintro e w3 ⟨al, rfl, hx, ho, hD'⟩
  have HQ := Lib.hid (HQ.out.next ho (hD'.more (Int.le_refl _)))
  have HOW := Lib.hid (HOW.out.only ho hgb)
  have hb21 : 0 ≤ al ∧ al ≤ 1200000 := by simp at hx; omega
  clear ho hD' hx
  go_wp2_with fail
  refine (pick_new g (N + 22) [0, 0, 12000, 1] _ 3 4 (HQ.out.deck.more (by omega)) (by omega) (by decide) (by decide)).mono ?_
  rintro e w4 ⟨cr, rfl, hx, ho, hD'⟩
  have HQ := Lib.hid (HQ.out.next ho (hD'.more (Int.le_refl _)))
  have HOW := Lib.hid (HOW.out.only ho hgb)
  have hb22 : 0 ≤ cr ∧ cr ≤ 12000 := by simp at hx; omega
  clear ho hD' hx
  go_wp2_with fail
  refine (pick_new g (N + 23) [1, 1, 100, 10] _ 3 4 (HQ.out.deck.more (by omega)) (by omega) (by decide) (by decide)).mono ?_
  rintro e w5 ⟨un, rfl, hx, ho, hD'⟩
  have HQ := Lib.hid (HQ.out.next ho (hD'.more (Int.le_refl _)))
  have HOW := Lib.hid (HOW.out.only ho hgb)
  have hb23 : 1 ≤ un ∧ un ≤ 100 := by simp at hx; omega
  clear ho hD' hx
  go_wp2_with fail
  refine (mode_any g (N + 24) _ (HQ.out.deck.more (by omega)) (by omega)).mono ?_
  rintro e w6 ⟨mo, rfl, hmo, ho, hD'⟩
  have HQ := Lib.hid (HQ.out.next ho hD')
  have HOW := Lib.hid (HOW.out.only ho hgb)
  clear ho hD'
  have hrl := HQ.out.rv.lt
  have HNB : Hid (∀ b off, Ab = some ⟨b, off, none⟩ → w1.heap.size ≤ b ∧ b < w6.heap.size) := Lib.hid (fun b off e => by
    have h := HOW.out
    unfold OwnP at h
    rw [e] at h
    exact World.ownsRow.lt h b rfl)
  have HRB := Lib.hid (own_rd HOW.out)
  have hgw6 : g < w6.heap.size := HQ.out.deck.lt
  have hrw : w.heap.size < w6.heap.size := hrl
  go_wp2_with fail
  refine (next_any g (N + 25) 3 _ ((HQ.out.alloc _).deck.more (by omega)) (by omega) (by omega) (by omega)).mono ?_
  rintro e w7 ⟨v7, rfl, hv7, ho, hD'⟩
  have hs7 : w6.heap.size < w7.heap.size := by have := ho.size; simp at this; omega
  have HTB := Lib.hid ((Blk.new w6 33 #[.int .i64 0, .slice Ab lb.length nb, .int .i64 al, .int .i64 cr, .int .i64 un, .int .i64 mo, .slice none 0 0]).grown ho (by intro e; injection e; omega))
  have HRB : Hid (RdP w7 w7.heap.size Ab lb) := Lib.hid (rdk (Rd.more (HRB.out.below ((Below.refl _ _).alloc (Nat.le_refl _) _)) (by simp)) ho (fun b off e => by have := HNB.out b off e; omega))
  have HQ := Lib.hid ((HQ.out.alloc _).next ho hD')
  clear ho hD' HOW hrl
  have hrl := HQ.out.rv.lt
  have hn1 : ¬ w.heap.size = w6.heap.size := by omega
  have hn2 : ¬ w6.heap.size = w.heap.size := by omega
  have y0 := HTB.out.cell 0
  have y1 := HTB.out.cell 1
  have y2 := HTB.out.cell 2
  have y3 := HTB.out.cell 3
  have y4 := HTB.out.cell 4
  have y5 := HTB.out.cell 5
  have y6 := HTB.out.cell 6
  have yf0 := HTB.out.frozen 0
  have yf1 := HTB.out.frozen 1
  have yf2 := HTB.out.frozen 2
  have yf3 := HTB.out.frozen 3
  have yf4 := HTB.out.frozen 4
  have yf5 := HTB.out.frozen 5
  have yf6 := HTB.out.frozen 6
  simp at y0 y1 y2 y3 y4 y5 y6
  by_cases hm : v7 = 0
  · subst hm
    go_wp2_with fail
    refine (rows_any g (N + 26) _ ((HQ.out.set (p := ⟨w6.heap.size, 0, none⟩) hrw _).deck.more (by omega)) (by omega)).mono ?_
    rintro e w8 ⟨Ar, nr, lr, rfl, htbl, hlr5, hown, ho, hD'⟩
    have HQ8 := Lib.hid ((HQ.out.set (p := ⟨w6.heap.size, 0, none⟩) hrw (.int .i64 1)).next ho hD')
    have HRB8 : Hid (RdP w8 w8.heap.size Ab lb) := Lib.hid (rdk (rdk_set HRB.out (p := ⟨w6.heap.size, 0, none⟩) (.int .i64 1) (fun b off e => by have := HNB.out b off e; show b ≠ w6.heap.size; omega)) ho (fun b off e => by have := HNB.out b off e; omega))
    have HTB8 : Hid (Blk w8 w6.heap.size 33 #[.int .i64 1, .slice Ab lb.length nb, .int .i64 al, .int .i64 cr, .int .i64 un, .int .i64 mo, .slice none 0 0]) := Lib.hid (by
      have h1 := HTB.out.set_ 0 (.int .i64 1)
      have h2 := h1.grown ho (by intro e; injection e; omega)
      simpa using h2)
    have HNR : Hid (∀ b off, Ar = some ⟨b, off, none⟩ → w7.heap.size ≤ b) := Lib.hid (fun b off e => by
      have h := hown
      unfold OwnR at h
      rw [e] at h
      have := (World.ownsRow.lt h b rfl).1
      simpa [World.setCell] using this)
    have HRR := Lib.hid (own_rd hown)
    have hval := tf_valid (m := 1) (.inl ⟨rfl, htbl⟩) HV.out hb21.1 (by omega) hb22.1 (by omega) hb23.1 hb23.2 hmo.1 (show mo ≤ 6 by omega)
    clear ho hD' hown htbl y0 y1 y2 y3 y4 y5 y6 yf0 yf1 yf2 yf3 yf4 yf5 yf6 hrl
    have hrl := HQ8.out.rv.lt
    have y0 := HTB8.out.cell 0
    have y1 := HTB8.out.cell 1
    have y2 := HTB8.out.cell 2
    have y3 := HTB8.out.cell 3
    have y4 := HTB8.out.cell 4
    have y5 := HTB8.out.cell 5
    have y6 := HTB8.out.cell 6
    have yf0 := HTB8.out.frozen 0
    have yf1 := HTB8.out.frozen 1
    have yf2 := HTB8.out.frozen 2
    have yf3 := HTB8.out.frozen 3
    have yf4 := HTB8.out.frozen 4
    have yf5 := HTB8.out.frozen 5
    have yf6 := HTB8.out.frozen 6
    simp at y0 y1 y2 y3 y4 y5 y6
    have r0 := HQ8.out.rv.cell 0
    have r1 := HQ8.out.rv.cell 1
    have r2 := HQ8.out.rv.cell 2
    have r3 := HQ8.out.rv.cell 3
    have r4 := HQ8.out.rv.cell 4
    have r5 := HQ8.out.rv.cell 5
    have r6 := HQ8.out.rv.cell 6
    have rf0 := HQ8.out.rv.frozen 0
    have rf1 := HQ8.out.rv.frozen 1
    have rf2 := HQ8.out.rv.frozen 2
    have rf3 := HQ8.out.rv.frozen 3
    have rf4 := HQ8.out.rv.frozen 4
    have rf5 := HQ8.out.rv.frozen 5
    have rf6 := HQ8.out.rv.frozen 6
    simp at r0 r1 r2 r3 r4 r5 r6
    go_wp2
    refine bodyPost_ret (v := .agg #[.int .i64 1, .slice Ab lb.length nb, .int .i64 al, .int .i64 cr, .int .i64 un, .int .i64 mo, .slice Ar lr.length nr]) (by simp [results, Try.results14, go_sem, r0, r1, r2, r3, r4, r5, r6, hrl, hrw, hn1, hn2]) rfl ?_
    exact tariff_fin0 (W := w8.setCell ⟨w6.heap.size, 6, none⟩ (.slice Ar lr.length nr)) ⟨1, lb, al, cr, un, mo, lr⟩ ⟨Ab, nb, Ar, nr⟩ (HQ8.out.set (p := ⟨w6.heap.size, 6, none⟩) hrw _) (by omega) (put7_only _ _ _ _ _ _ _ _ _) hval (rdk_set HRB8.out (p := ⟨w6.heap.size, 6, none⟩) _ (fun b off e => by have := HNB.out b off e; show b ≠ w6.heap.size; omega)) (fun b off e => by have := HNB.out b off e; omega) (rdk_set HRR.out (p := ⟨w6.heap.size, 6, none⟩) _ (fun b off e => by have := HNR.out b off e; show b ≠ w6.heap.size; omega)) (fun b off e => by have := HNR.out b off e; omega) (by show lb.length ≤ _; omega) (by show lr.length ≤ _; omega)
  · have k1 : (1 + v7 == 1) = false := by simp; omega
    have hval := tf_valid (m := 1 + v7) (r := []) (.inr ⟨by omega, rfl⟩) HV.out hb21.1 (by omega) hb22.1 (by omega) hb23.1 hb23.2 hmo.1 (show mo ≤ 6 by omega)
    have r0 := HQ.out.rv.cell 0
    have r1 := HQ.out.rv.cell 1
    have r2 := HQ.out.rv.cell 2
    have r3 := HQ.out.rv.cell 3
    have r4 := HQ.out.rv.cell 4
    have r5 := HQ.out.rv.cell 5
    have r6 := HQ.out.rv.cell 6
    have rf0 := HQ.out.rv.frozen 0
    have rf1 := HQ.out.rv.frozen 1
    have rf2 := HQ.out.rv.frozen 2
    have rf3 := HQ.out.rv.frozen 3
    have rf4 := HQ.out.rv.frozen 4
    have rf5 := HQ.out.rv.frozen 5
    have rf6 := HQ.out.rv.frozen 6
    simp at r0 r1 r2 r3 r4 r5 r6
    go_wp2
    refine bodyPost_ret (v := .agg #[.int .i64 (1 + v7), .slice Ab lb.length nb, .int .i64 al, .int .i64 cr, .int .i64 un, .int .i64 mo, .slice none 0 0]) (by simp [results, Try.results14, go_sem, r0, r1, r2, r3, r4, r5, r6, hrl, hrw, hn1, hn2]) rfl ?_
    exact tariff_fin0 (W := w7.setCell ⟨w6.heap.size, 0, none⟩ (.int .i64 (1 + v7))) ⟨1 + v7, lb, al, cr, un, mo, []⟩ ⟨Ab, nb, none, 0⟩ (HQ.out.set (p := ⟨w6.heap.size, 0, none⟩) hrw _) (by omega) (put7_only _ _ _ _ _ _ _ _ _) hval (rdk_set HRB.out (p := ⟨w6.heap.size, 0, none⟩) _ (fun b off e => by have := HNB.out b off e; show b ≠ w6.heap.size; omega)) (fun b off e => by have := HNB.out b off e; omega) Rd.none_ (fun b off e => by cases e) (by show lb.length ≤ _; omega) (by simp)
end Go.Proofs.Ytcincmlpegnaiaa
