/-
  Chapter 30: drawn tariffs and incomes.
-/
import Derived.Test.YtcincmlpegnaiaaWh9
import Derived.Test.YtcincmlpegnaiaaGen29
namespace Go.Proofs.Ytcincmlpegnaiaa
open Go.RowKit
set_option linter.unusedVariables false
set_option linter.unusedSimpArgs false

structure QT (w : World) (g : Nat) (N : Int) (W : World) : Prop where
  deck : Deck W g N
  on : Only g w W
  rv : Blk W w.heap.size 33 #[.int .i64 0, .slice none 0 0, .int .i64 0, .int .i64 0, .int .i64 0, .int .i64 0, .slice none 0 0]
  hg : g < w.heap.size
theorem QT.next {w W W' : World} {g : Nat} {N N' : Int} (h : QT w g N W) (ho : Only g W W') (hD : Deck W' g N') : QT w g N' W' := ⟨hD, h.on.trans ho, h.rv.grown ho (by have := h.hg; intro e; injection e; omega), h.hg⟩
theorem QT.alloc {w W : World} {g : Nat} {N : Int} (h : QT w g N W) (o : Obj) : QT w g N (W.alloc o) := ⟨h.deck.alloc o, h.on.alloc o, h.rv.alloc o, h.hg⟩
theorem QT.start {w : World} {g : Nat} {N : Int} (hD : Deck w g N) : QT w g N (w.alloc (.cells #[.int .i64 0, .slice none 0 0, .int .i64 0, .int .i64 0, .int .i64 0, .int .i64 0, .slice none 0 0] 33)) := ⟨hD.alloc _, (Only.refl _ _).alloc _, Blk.new _ _ _, hD.lt⟩
/-- a drawn tariff -/
def TariffPost (g : Nat) (N : Int) (w : World) (e : Ending) (w' : World) : Prop :=
  ∃ t L, e = .returned (.agg #[.int .i64 t.m, .slice L.Ab t.bk.length L.nb, .int .i64 t.al, .int .i64 t.cr, .int .i64 t.un, .int .i64 t.mo, .slice L.Ar t.rw.length L.nr]) ∧ tvB t = true ∧ RdT w' w'.heap.size L t ∧ (∀ b off, L.Ab = some ⟨b, off, none⟩ → b ≠ g) ∧ (∀ b off, L.Ar = some ⟨b, off, none⟩ → b ≠ g) ∧ Only g w w' ∧ Deck w' g N
theorem RdT.only {w w' : World} {L : TL} {t : TF} {g : Nat} (h : RdT w w.heap.size L t) (ho : Only g w w') (h1 : ∀ b off, L.Ab = some ⟨b, off, none⟩ → b ≠ g) (h2 : ∀ b off, L.Ar = some ⟨b, off, none⟩ → b ≠ g) : RdT w' w'.heap.size L t :=
  ⟨Rd.more (rd_far h.b ho h1) ho.size, Rd.more (rd_far h.r ho h2) ho.size, h.lb, h.lr⟩
theorem tf_valid {m : Int} {l r : List (Int × Int)} {al cr un mo : Int} (hm : (m = 1 ∧ Tbl r) ∨ ((m = 2 ∨ m = 3) ∧ r = [])) (hl : Val l) (h1 : 0 ≤ al) (h2 : al ≤ 1000000000) (h3 : 0 ≤ cr) (h4 : cr ≤ 1000000000) (h5 : 1 ≤ un) (h6 : un ≤ 100) (h7 : 0 ≤ mo) (h8 : mo ≤ 6) : tvB ⟨m, l, al, cr, un, mo, r⟩ = true := by
  have hmB : mB ⟨m, l, al, cr, un, mo, r⟩ = true := by
    unfold mB
    rcases hm with ⟨rfl, hr⟩ | ⟨hm, rfl⟩
    · rw [if_pos (by rfl)]; exact tblB_true hr
    · rw [if_neg (by show ¬ m = 1; omega), if_pos (by show m = 2 ∨ m = 3; exact hm)]; rfl
  unfold tvB
  rw [hmB]
  simp only [Bool.true_and, Bool.and_eq_true, decide_eq_true_eq, amt_iff]
  exact ⟨valB_true hl, ⟨h1, h2⟩, ⟨h3, h4⟩, h5, h6, h7, h8⟩
theorem put7_only (W : World) (r : Nat) (a b c d e f h : Value) : Only r W (((((((W.setCell ⟨r, 0, none⟩ a).setCell ⟨r, 1, none⟩ b).setCell ⟨r, 2, none⟩ c).setCell ⟨r, 3, none⟩ d).setCell ⟨r, 4, none⟩ e).setCell ⟨r, 5, none⟩ f).setCell ⟨r, 6, none⟩ h) :=
  ((((((((Only.refl r W).setCell (p := ⟨r, 0, none⟩) (.inl rfl) _).setCell (p := ⟨r, 1, none⟩) (.inl rfl) _).setCell (p := ⟨r, 2, none⟩) (.inl rfl) _).setCell (p := ⟨r, 3, none⟩) (.inl rfl) _).setCell (p := ⟨r, 4, none⟩) (.inl rfl) _).setCell (p := ⟨r, 5, none⟩) (.inl rfl) _).setCell (p := ⟨r, 6, none⟩) (.inl rfl) _)
theorem tariff_fin {w W W' : World} {g base : Nat} {N M : Int} {o : Obj} (t : TF) (L : TL) (hq : QT w g M W) (hMN : M ≤ N) (ho : Only w.heap.size W W') (hv : tvB t = true) (hb : OwnP W base L.Ab L.nb t.bk) (hbase : w.heap.size < base) (hr : RdP W W.heap.size L.Ar t.rw) (hr2 : ∀ b off, L.Ar = some ⟨b, off, none⟩ → w.heap.size < b) (l1 : t.bk.length ≤ 9223372036854775807) (l2 : t.rw.length ≤ 9223372036854775807) :
    TariffPost g N w (.returned (.agg #[.int .i64 t.m, .slice L.Ab t.bk.length L.nb, .int .i64 t.al, .int .i64 t.cr, .int .i64 t.un, .int .i64 t.mo, .slice L.Ar t.rw.length L.nr])) (W'.alloc o) := by
  have hg := hq.hg
  have hb2 : ∀ b off, L.Ab = some ⟨b, off, none⟩ → w.heap.size < b := fun b off e => by
    unfold OwnP at hb
    rw [e] at hb
    have := (World.ownsRow.lt hb b rfl).1
    omega
  have hal : Below W'.heap.size W' (W'.alloc o) := (Below.refl _ _).alloc (Nat.le_refl _) o
  have hon : Only g w W' := ⟨ho.os.trans hq.on.os, ho.tape.trans hq.on.tape, ho.output.trans hq.on.output, Nat.le_trans hq.on.size ho.size, fun i hi hne => (ho.block i (Nat.lt_of_lt_of_le hi hq.on.size) (by intro e; injection e; omega)).trans (hq.on.block i hi hne)⟩
  refine ⟨t, L, rfl, hv, ⟨?_, ?_, l1, l2⟩, fun b off e => by have := hb2 b off e; omega, fun b off e => by have := hr2 b off e; omega, hon.alloc o, ((hq.deck.only ho hg).alloc o).more hMN⟩
  · exact Rd.more ((Rd.more (rd_far (own_rd hb) ho (fun b off e => by have := hb2 b off e; omega)) ho.size).below hal) hal.size
  · exact Rd.more ((Rd.more (rd_far hr ho (fun b off e => by have := hr2 b off e; omega)) ho.size).below hal) hal.size
set_option maxHeartbeats 1600000 in
theorem tariff3_any (g : Nat) (N : Int) (w : World) (hD : Deck w g N) (hN : N ≤ 700000) :
    Calls Try.prog 14 #[.pointer (some ⟨g, 0, none⟩), .int .i64 3] w (TariffPost g (N + 40) w) := by
  have HQ := Lib.hid (QT.start hD)
  have hgw := hD.lt
  clear hD
  go_enter Try.func14, Try.ntmps14
  go_wp2_with fail
  refine (next_any g N 3 _ HQ.out.deck (by omega) (by omega) (by omega)).mono ?_
  rintro e w1 ⟨v1, rfl, hv1, ho, hD'⟩
  have hw1 : w.heap.size < w1.heap.size := by have := ho.size; simp at this; omega
  have HQ := Lib.hid (HQ.out.next ho hD')
  clear ho hD'
  go_wp2_with fail
  refine (brackets_any _ g (N + 1) _ HQ.out.deck (by omega)).mono ?_
  rintro e w2 ⟨Ab, nb, lb, rfl, hgen, hown, ho, hD'⟩
  have hgb : g < w1.heap.size := HQ.out.deck.lt
  have HQ := Lib.hid (HQ.out.next ho hD')
  have HOW := Lib.hid hown
  have HV := Lib.hid (gen_val hgen)
  have hl4 : lb.length ≤ 4 := hgen.2.1
  clear hgen hown ho hD'
  go_wp2_with fail
  refine (pick_new g (N + 21) [0, 600000, 1200000, 7] _ 3 4 (HQ.out.deck.more (by omega)) (by omega) (by decide) (by decide)).mono ?_
  rintro e w3 ⟨al, rfl, hx, ho, hD'⟩
  have HQ := Lib.hid (HQ.out.next ho (hD'.more (Int.le_refl _)))
  have HOW := Lib.hid (HOW.out.only ho hgb)
  have hb21 : 0 ≤ al ∧ al ≤ 1200000 := by simp at hx; omega
  clear ho hD' hx
  go_wp2_with fail
  refine (pick_new g (N + 22) [0, 0, 12000, 1] _ 3 4 (HQ.out.deck.more (by omega)) (by omega) (by decide) (by decide)).mono ?_
  rintro e w4 ⟨cr, rfl, hx, ho, hD'⟩
  have HQ := Lib.hid (HQ.out.next ho (hD'.more (Int.le_refl _)))
  have HOW := Lib.hid (HOW.out.only ho hgb)
  have hb22 : 0 ≤ cr ∧ cr ≤ 12000 := by simp at hx; omega
  clear ho hD' hx
  go_wp2_with fail
  refine (pick_new g (N + 23) [1, 1, 100, 10] _ 3 4 (HQ.out.deck.more (by omega)) (by omega) (by decide) (by decide)).mono ?_
  rintro e w5 ⟨un, rfl, hx, ho, hD'⟩
  have HQ := Lib.hid (HQ.out.next ho (hD'.more (Int.le_refl _)))
  have HOW := Lib.hid (HOW.out.only ho hgb)
  have hb23 : 1 ≤ un ∧ un ≤ 100 := by simp at hx; omega
  clear ho hD' hx
  go_wp2_with fail
  refine (mode_any g (N + 24) _ (HQ.out.deck.more (by omega)) (by omega)).mono ?_
  rintro e w6 ⟨mo, rfl, hmo, ho, hD'⟩
  have HQ := Lib.hid (HQ.out.next ho hD')
  have HOW := Lib.hid (HOW.out.only ho hgb)
  clear ho hD'
  have hrl := HQ.out.rv.lt
  have r0 := HQ.out.rv.cell 0
  have r1 := HQ.out.rv.cell 1
  have r2 := HQ.out.rv.cell 2
  have r3 := HQ.out.rv.cell 3
  have r4 := HQ.out.rv.cell 4
  have r5 := HQ.out.rv.cell 5
  have r6 := HQ.out.rv.cell 6
  have rf0 := HQ.out.rv.frozen 0
  have rf1 := HQ.out.rv.frozen 1
  have rf2 := HQ.out.rv.frozen 2
  have rf3 := HQ.out.rv.frozen 3
  have rf4 := HQ.out.rv.frozen 4
  have rf5 := HQ.out.rv.frozen 5
  have rf6 := HQ.out.rv.frozen 6
  simp at r0 r1 r2 r3 r4 r5 r6
  go_wp2
  refine bodyPost_ret (v := .agg #[.int .i64 3, .slice Ab lb.length nb, .int .i64 al, .int .i64 cr, .int .i64 un, .int .i64 mo, .slice none 0 0]) (by simp [results, Try.results14, go_sem, r0, r1, r2, r3, r4, r5, r6, hrl]) rfl ?_
  have hval := tf_valid (m := 3) (r := []) (.inr ⟨.inr rfl, rfl⟩) HV.out hb21.1 (by omega) hb22.1 (by omega) hb23.1 hb23.2 hmo.1 (show mo ≤ 6 by omega)
  exact tariff_fin (W := w6) (base := w1.heap.size) ⟨3, lb, al, cr, un, mo, []⟩ ⟨Ab, nb, none, 0⟩ HQ.out (by omega) (put7_only _ _ _ _ _ _ _ _ _) hval HOW.out hw1 Rd.none_ (fun b off e => by cases e) (by show lb.length ≤ _; omega) (by simp)
end Go.Proofs.Ytcincmlpegnaiaa
