/-
  Chapter 30: plain facts of tariffs and taxes.
-/
import Derived.Test.YtcincmlpegnaiaaWh3
import Derived.Test.YtcincmlpegnaiaaPlain29c
namespace Go.Proofs.Ytcincmlpegnaiaa
open Go.RowKit
set_option linter.unusedVariables false
set_option linter.unusedSimpArgs false


theorem amt_iff {n : Int} : amtB n = true ↔ 0 ≤ n ∧ n ≤ 1000000000 := by simp [amtB, inM]
theorem tv_facts {t : TF} (h : tvB t = true) : Val t.bk ∧ 0 ≤ t.al ∧ t.al ≤ 1000000000 ∧ 0 ≤ t.cr ∧ t.cr ≤ 1000000000 ∧ 1 ≤ t.un ∧ t.un ≤ 100 ∧ 0 ≤ t.mo ∧ t.mo ≤ 6 := by
  unfold tvB at h
  simp only [Bool.and_eq_true, decide_eq_true_eq, amt_iff] at h
  obtain ⟨_, h1, h2, h3, h4, h5, h6, h7⟩ := h
  refine ⟨?_, h2.1, h2.2, h3.1, h3.2, h4, h5, h6, h7⟩
  by_cases hv : Val t.bk
  · exact hv
  · rw [valB_false hv] at h1; cases h1
theorem chk_in {l : List (Int × Int)} {n : Int} (h : Val l) (h0 : 0 ≤ n) (h1 : n ≤ 1000000000000) : chk l n = 0 := chk_ok h (by omega) (by omega)
theorem tax_facts {l : List (Int × Int)} {n un mo : Int} (h : Val l) (h0 : 0 ≤ n) (h1 : n ≤ 1000000000000) (hu : 1 ≤ un) (hu2 : un ≤ 100) (hm : 0 ≤ mo) (hm2 : mo ≤ 6) :
    taxE l n un mo = 0 ∧ taxV l n un mo = roundV (exL l n) un mo ∧ 0 ≤ taxV l n un mo ∧ taxV l n un mo ≤ n + un := by
  obtain ⟨e1, e2, _⟩ := tax_ok (chk_in h h0 h1) hu (by omega) ⟨hm, hm2⟩
  refine ⟨e2, e1, ?_⟩
  rw [e1]
  have hb := exTo_bd h h0 h1 l.length (Nat.le_refl _)
  have hx : exL l n = exTo l n l.length := rfl
  rw [← hx] at hb
  generalize exL l n = x at *
  have a : 0 ≤ x / (1000000 * un) := Int.ediv_nonneg hb.1 (by omega)
  have b : x / (1000000 * un) * (1000000 * un) ≤ x := Int.ediv_mul_le x (by omega)
  have c : x / (1000000 * un) * (1000000 * un) = 1000000 * (x / (1000000 * un) * un) := by rw [← Int.mul_assoc, Int.mul_comm (x / (1000000 * un)) 1000000, Int.mul_assoc]
  have d : 0 ≤ x / (1000000 * un) * un := Int.mul_nonneg a (by omega)
  unfold roundV
  rw [Int.add_mul]
  split
  · omega
  · omega
def okIf (v : Bool) (p : Prop) [Decidable p] (x : Int) : Int := if v = true ∧ p then x else 0
def erIf (v : Bool) (p : Prop) [Decidable p] (c : Int) : Int := if v = true then (if p then 0 else c) else 1
theorem if_bad {v : Bool} {p : Prop} [Decidable p] {x c : Int} (h : v = false) : okIf v p x = 0 ∧ erIf v p c = 1 := by subst h; simp [okIf, erIf]
theorem if_range {v : Bool} {p : Prop} [Decidable p] {x c : Int} (h : v = true) (hp : ¬ p) : okIf v p x = 0 ∧ erIf v p c = c := by subst h; simp [okIf, erIf, hp]
theorem if_ok {v : Bool} {p : Prop} [Decidable p] {x c : Int} (h : v = true) (hp : p) : okIf v p x = x ∧ erIf v p c = 0 := by subst h; simp [okIf, erIf, hp]
abbrev annP (inc : Int) : Prop := 0 ≤ inc ∧ inc ≤ 1000000000000
abbrev frmP (inc c : Int) : Prop := 0 ≤ inc ∧ inc ≤ 1000000000 ∧ 1 ≤ c ∧ c ≤ 53
abbrev dueP (c k tot : Int) : Prop := 1 ≤ c ∧ c ≤ 53 ∧ 1 ≤ k ∧ k ≤ c ∧ 0 ≤ tot ∧ tot ≤ 1000000000000
noncomputable def annX (t : TF) (inc : Int) : Int := txV t.bk t.un t.mo t.al t.cr inc
noncomputable def frmX (t : TF) (inc c : Int) : Int := txV t.bk t.un t.mo t.al t.cr (inc * c) / c
noncomputable def dueX (t : TF) (c k tot : Int) : Int := txV (dd (sc t.bk k c)) t.un t.mo (t.al * k / c) (t.cr * k / c) tot
noncomputable def annV (t : TF) (inc : Int) : Int := okIf (tvB t) (annP inc) (annX t inc)
noncomputable def annE (t : TF) (inc : Int) : Int := erIf (tvB t) (annP inc) 2
noncomputable def frmV (t : TF) (inc c : Int) : Int := okIf (tvB t) (frmP inc c) (frmX t inc c)
noncomputable def frmE (t : TF) (inc c : Int) : Int := erIf (tvB t) (frmP inc c) 2
noncomputable def dueV (t : TF) (c k tot : Int) : Int := okIf (tvB t) (dueP c k tot) (dueX t c k tot)
noncomputable def dueE (t : TF) (c k tot : Int) : Int := erIf (tvB t) (dueP c k tot) 2
noncomputable def cumV (t : TF) (c k tot wh : Int) : Int := if dueE t c k tot = 0 ∧ wtB wh = true then dueV t c k tot - wh else 0
noncomputable def cumE (t : TF) (c k tot wh : Int) : Int := if dueE t c k tot = 0 then (if wtB wh = true then 0 else 2) else dueE t c k tot
theorem tx_bd {l : List (Int × Int)} {un mo al cr inc : Int} (h : Val l) (h0 : 0 ≤ inc) (h1 : inc ≤ 1000000000000) (hu : 1 ≤ un) (hu2 : un ≤ 100) (hm : 0 ≤ mo) (hm2 : mo ≤ 6) (ha : 0 ≤ al) (hc : 0 ≤ cr) :
    0 ≤ txV l un mo al cr inc ∧ txV l un mo al cr inc ≤ inc + un := by
  have hf := tax_facts (l := l) (n := max (inc - al) 0) (un := un) (mo := mo) h (by omega) (by omega) hu hu2 hm hm2
  unfold txV
  omega
theorem due_sc {c k tot : Int} (h : dueP c k tot) : scOk k c := ⟨h.1, h.2.1, by have := h.2.2.1; omega, h.2.2.2.1⟩
theorem part_bd {a k c : Int} (ha : 0 ≤ a) (hk : 0 ≤ k) (hkc : k ≤ c) (hc : 1 ≤ c) : 0 ≤ a * k / c ∧ a * k / c ≤ a := by
  refine ⟨Int.ediv_nonneg (Int.mul_nonneg ha hk) (by omega), ?_⟩
  have : a * k ≤ a * c := Int.mul_le_mul_of_nonneg_left hkc ha
  calc a * k / c ≤ a * c / c := Int.ediv_le_ediv (by omega) this
    _ = a := Int.mul_ediv_cancel a (by omega)
theorem due_bd {t : TF} {c k tot : Int} (hv : tvB t = true) (hp : dueP c k tot) : 0 ≤ dueX t c k tot ∧ dueX t c k tot ≤ tot + 100 := by
  obtain ⟨f1, f2, f3, f4, f5, f6, f7, f8, f9⟩ := tv_facts hv
  obtain ⟨p1, p2, p3, p4, p5, p6⟩ := hp
  have := tx_bd (l := dd (sc t.bk k c)) (un := t.un) (mo := t.mo) (al := t.al * k / c) (cr := t.cr * k / c) (inc := tot) (scale_val f1 ⟨p1, p2, by omega, p4⟩) p5 p6 f6 f7 f8 f9 (part_bd f2 (by omega) p4 p1).1 (part_bd f4 (by omega) p4 p1).1
  unfold dueX
  omega

end Go.Proofs.Ytcincmlpegnaiaa
