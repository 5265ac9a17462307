/-
  Contracts of segment, Instants, first, First, begin, Begin and Day of package payrollref4.
-/
import Derived.Test.YtagkdkkpgcolkaaRef4
import Derived.Test.YtagkdkkpgcolkaaPlain4
namespace Go.Proofs.Ytagkdkkpgcolkaa
open Go.RowKit
set_option linter.unusedVariables false
set_option linter.unusedSimpArgs false

def sLast (l : List (Int × Int)) (k : Nat) : Int := if k < l.length then fst2 l k - 1 else 120968639
theorem sLast_lt {l : List (Int × Int)} {k : Nat} (h : k < l.length) : sLast l k = fst2 l k - 1 := if_pos h
theorem sLast_end {l : List (Int × Int)} {k : Nat} (h : ¬ k < l.length) : sLast l k = 120968639 := if_neg h
theorem sLast_bd {o : Int} {l : List (Int × Int)} (h : ZVal o l) (k : Nat) : -1 ≤ sLast l k ∧ sLast l k ≤ 120968639 := by
  unfold sLast
  split
  · have := h.2.2.1 k (by assumption); omega
  · omega
def RetIII (u v x : Int) (w : World) (e : Ending) (w' : World) : Prop := e = .returned (.tuple #[.int .i64 u, .int .i64 v, .int .i64 x]) ∧ Below w.heap.size w w'
theorem retIII_of {u v x u' v' x' : Int} {w w' : World} (hu : u = u') (hv : v = v') (hx : x = x') (hb : Below w.heap.size w w') : RetIII u' v' x' w (.returned (.tuple #[.int .i64 u, .int .i64 v, .int .i64 x])) w' := by
  subst hu hv hx; exact ⟨rfl, hb⟩
/-- the instants, part by part -/
def rInst (o : Int) (l : List (Int × Int)) (loc : Int) : Nat → List Int
  | 0 => []
  | k + 1 => if sFrom l k + sOff o l k ≤ loc ∧ loc ≤ sLast l k + sOff o l k then rInst o l loc k ++ [loc - sOff o l k] else rInst o l loc k
theorem rInst_yes {o : Int} {l : List (Int × Int)} {loc : Int} {k : Nat} (h : sFrom l k + sOff o l k ≤ loc ∧ loc ≤ sLast l k + sOff o l k) : rInst o l loc (k + 1) = rInst o l loc k ++ [loc - sOff o l k] := if_pos h
theorem rInst_no {o : Int} {l : List (Int × Int)} {loc : Int} {k : Nat} (h : ¬ (sFrom l k + sOff o l k ≤ loc ∧ loc ≤ sLast l k + sOff o l k)) : rInst o l loc (k + 1) = rInst o l loc k := if_neg h
theorem rInst_len (o : Int) (l : List (Int × Int)) (loc : Int) : ∀ k, (rInst o l loc k).length ≤ k
  | 0 => by simp [rInst]
  | k + 1 => by
    have := rInst_len o l loc k
    simp only [rInst]
    split
    · simp; omega
    · omega
theorem rInst_sg (o : Int) (l : List (Int × Int)) (loc : Int) : ∀ k, k ≤ l.length → rInst o l loc k = instR (sgTo o l k) loc
  | 0, _ => rfl
  | k + 1, hk => by
    have ih := rInst_sg o l loc k (by omega)
    have hs := sLast_lt (l := l) (k := k) (by omega)
    by_cases hf : sFrom l k < fst2 l k
    · rw [sgTo_yes hf, instR_snoc, ← ih]
      by_cases hc : sFrom l k + sOff o l k ≤ loc ∧ loc ≤ sLast l k + sOff o l k
      · rw [rInst_yes hc, if_pos (by dsimp only; omega)]
      · rw [rInst_no hc, if_neg (by dsimp only; omega)]
    · rw [sgTo_no hf, rInst_no (by omega), ih]
theorem rInst_all {o : Int} {l : List (Int × Int)} (hV : ZVal o l) (loc : Int) : rInst o l loc (l.length + 1) = instL o l loc := by
  have h1 : rInst o l loc (l.length + 1) = instR (segs o l) loc := by
    have ih := rInst_sg o l loc l.length (Nat.le_refl _)
    have hs := sLast_end (l := l) (k := l.length) (by omega)
    unfold segs
    rw [instR_snoc, ← ih]
    by_cases hc : sFrom l l.length + sOff o l l.length ≤ loc ∧ loc ≤ sLast l l.length + sOff o l l.length
    · rw [rInst_yes hc, if_pos (by dsimp only; omega)]
    · rw [rInst_no hc, if_neg (by dsimp only; omega)]
  rw [h1]
  unfold instL
  by_cases hc : zerr o l = 0 ∧ -840 ≤ loc ∧ loc ≤ 120969479
  · rw [if_pos hc, instTo_take _ _ _ (Nat.le_refl _), List.take_length]
  · rw [if_neg hc]
    rcases he : instR (segs o l) loc with _ | ⟨x, r⟩
    · rfl
    · have hx : x ∈ instR (segs o l) loc := by rw [he]; simp
      obtain ⟨a, b, c⟩ := (inst_mem loc x (segs_chain hV)).1 hx
      rw [segs_off hV x a b] at c
      have := sh_bd hV x l.length (Nat.le_refl _)
      exact absurd ⟨zerr_of hV, by omega, by omega⟩ hc

/-- no part before k has an instant at or behind the local minute -/
def Past (o : Int) (l : List (Int × Int)) (loc : Int) (k : Nat) : Prop := ∀ R, firstL (sgTo o l k ++ R) loc = firstL R loc
theorem past_zero (o : Int) (l : List (Int × Int)) (loc : Int) : Past o l loc 0 := fun R => rfl
theorem firstL_no {s : T3} {r : List T3} {loc : Int} (h : ¬ max s.1 (loc - s.2.2) < s.2.1) : firstL (s :: r) loc = firstL r loc := if_neg h
theorem firstL_yes {s : T3} {r : List T3} {loc : Int} (h : max s.1 (loc - s.2.2) < s.2.1) : firstL (s :: r) loc = max s.1 (loc - s.2.2) := if_pos h
theorem past_next {o : Int} {l : List (Int × Int)} {loc : Int} {k : Nat} (h : Past o l loc k) (hk : k < l.length) (hc : sLast l k < sFrom l k ∨ sLast l k + sOff o l k < loc) : Past o l loc (k + 1) := by
  intro R
  rw [sLast_lt hk] at hc
  by_cases hf : sFrom l k < fst2 l k
  · rw [sgTo_yes hf, List.append_assoc, h]
    exact firstL_no (by dsimp only; omega)
  · rw [sgTo_no hf]; exact h R
theorem sg_front (o : Int) (l : List (Int × Int)) (k : Nat) : ∀ d, ∃ R, sgTo o l (k + d) = sgTo o l k ++ R
  | 0 => ⟨[], by simp⟩
  | d + 1 => by
    obtain ⟨R, hR⟩ := sg_front o l k d
    show ∃ R, (if sFrom l (k + d) < fst2 l (k + d) then sgTo o l (k + d) ++ [(sFrom l (k + d), fst2 l (k + d), sOff o l (k + d))] else sgTo o l (k + d)) = _
    split
    · exact ⟨R ++ [(sFrom l (k + d), fst2 l (k + d), sOff o l (k + d))], by rw [hR, List.append_assoc]⟩
    · exact ⟨R, hR⟩
theorem clip_first : ∀ {S : List T3} (loc : Int), SegOk S → firstL S loc = firstL S (max loc (-840))
  | [], loc, _ => rfl
  | s :: r, loc, h => by
    have hs := h s (by simp)
    have ih := clip_first loc (S := r) (fun x hx => h x (by simp [hx]))
    unfold firstL
    rw [← ih, show max s.1 (max loc (-840) - s.2.2) = max s.1 (loc - s.2.2) by omega]
theorem far_first : ∀ {S : List T3} (loc : Int), SegOk S → 120969479 < loc → firstL S loc = 120968640
  | [], loc, _, _ => rfl
  | s :: r, loc, h, hl => by
    have hs := h s (by simp)
    rw [firstL_no (by omega)]
    exact far_first loc (fun x hx => h x (by simp [hx])) hl
theorem firstV_segs {o : Int} {l : List (Int × Int)} (hV : ZVal o l) (loc : Int) : firstV o l loc = firstL (segs o l) loc := by
  unfold firstV
  by_cases hc : 120969479 < loc
  · rw [if_pos hc, far_first loc (segs_ok hV) hc]
  · rw [if_neg hc, ← clip_first loc (segs_ok hV)]
theorem past_found {o : Int} {l : List (Int × Int)} (hV : ZVal o l) {loc : Int} {k : Nat} (h : Past o l loc k) (hk : k ≤ l.length) (h1 : sFrom l k ≤ sLast l k) (h2 : loc ≤ sLast l k + sOff o l k) : firstV o l loc = max (sFrom l k) (loc - sOff o l k) := by
  rw [firstV_segs hV]
  by_cases hlt : k < l.length
  · have hs := sLast_lt hlt
    obtain ⟨R, hR⟩ := sg_front o l (k + 1) (l.length - (k + 1))
    rw [show k + 1 + (l.length - (k + 1)) = l.length by omega, sgTo_yes (by omega)] at hR
    unfold segs
    rw [hR, List.append_assoc, List.append_assoc, h]
    exact firstL_yes (by dsimp only; omega)
  · have hs := sLast_end hlt
    obtain rfl : k = l.length := by omega
    unfold segs
    rw [h]
    exact firstL_yes (by dsimp only; omega)
theorem past_end {o : Int} {l : List (Int × Int)} (hV : ZVal o l) {loc : Int} (h : Past o l loc l.length) (hc : sLast l l.length < sFrom l l.length ∨ sLast l l.length + sOff o l l.length < loc) : firstV o l loc = 120968640 := by
  rw [firstV_segs hV]
  rw [sLast_end (by omega)] at hc
  have := sFrom_bd hV l.length (Nat.le_refl _)
  unfold segs
  rw [h, firstL_no (by dsimp only; omega)]
  rfl

section
variable (A : Option Addr) (c B : Nat) (o : Int) (l : List (Int × Int)) (w : World) (hr : RdP w B A l) (hB : B ≤ w.heap.size) (hV : ZVal o l)
include hr hB hV
set_option maxHeartbeats 1600000 in
theorem segment_any (k : Nat) (hk : k ≤ l.length) : Calls Try.prog 52 #[.agg #[.int .i64 o, .slice A l.length c], .int .i64 (k : Int)] w (RetIII (sFrom l k) (sLast l k) (sOff o l k) w) := by
  have HR := Lib.hid hr
  have h64 := hV.1
  have HA : Hid (∀ n ob, Below w.heap.size w ((w.alloc ob).drewN n)) := Lib.hid (fun n ob => below_drewN ((Below.refl _ _).alloc (Nat.le_refl _) ob) n)
  have HB3 := Lib.hid hV.2.2.1
  clear hr hV
  by_cases hk0 : 0 < k
  · obtain ⟨j, rfl⟩ : ∃ j, k = j + 1 := ⟨k - 1, by omega⟩
    obtain ⟨b, off, rfl, hbb, hc1, hc2⟩ := HR.out.all (by omega)
    have e1 : w.cell? ⟨b, off + j * 2, none⟩ = some (.int .i64 (fst2 l j)) := hc1 j (by omega)
    have e2 : w.cell? ⟨b, off + j * 2 + 1, none⟩ = some (.int .i64 (snd2 l j)) := hc2 j (by omega)
    have hbw : b < w.heap.size := by omega
    have hjl : j < l.length := by omega
    have HF : Hid (sFrom l (j + 1) = fst2 l j) := Lib.hid rfl
    have HO : Hid (sOff o l (j + 1) = snd2 l j) := Lib.hid rfl
    by_cases hlt : j + 1 < l.length
    · have e3 : w.cell? ⟨b, off + (j + 1) * 2, none⟩ = some (.int .i64 (fst2 l (j + 1))) := hc1 (j + 1) (by omega)
      have HS := Lib.hid (sLast_lt hlt)
      have hb3 := HB3.out (j + 1) hlt
      have hb31 := hb3.1
      have hb32 := hb3.2.1
      clear hc1 hc2 hb3
      have hw := IntWalk.i64_in (j : Int) (by omega)
      go_enter Try.func52, Try.ntmps52
      go_wp2
      go_quiet (fail)
      go_wp2
      go_quiet (fail)
      clear hw
      go_wp2
      go_ret3
      exact retIII_of HF.out.symm HS.out.symm HO.out.symm (HA.out _ _)
    · have HS := Lib.hid (sLast_end hlt)
      clear hc1 hc2
      have hw := IntWalk.i64_in (j : Int) (by omega)
      go_enter Try.func52, Try.ntmps52
      go_wp2
      go_quiet (fail)
      go_wp2
      go_quiet (fail)
      clear hw
      go_wp2
      go_ret3
      exact retIII_of HF.out.symm HS.out.symm HO.out.symm (HA.out _ _)
  · have hk00 : k = 0 := by omega
    subst hk00
    have HF : Hid (sFrom l 0 = 0) := Lib.hid rfl
    have HO : Hid (sOff o l 0 = o) := Lib.hid rfl
    by_cases hlt : 0 < l.length
    · obtain ⟨b, off, rfl, hbb, hc1, hc2⟩ := HR.out.all (by omega)
      have e1 : w.cell? ⟨b, off, none⟩ = some (.int .i64 (fst2 l 0)) := by simpa using hc1 0 (by omega)
      have HS := Lib.hid (sLast_lt hlt)
      have hb3 := HB3.out 0 hlt
      have hb31 := hb3.1
      have hb32 := hb3.2.1
      have hbw : b < w.heap.size := by omega
      clear hc1 hc2 hb3
      go_enter Try.func52, Try.ntmps52
      go_wp2
      go_quiet (fail)
      go_wp2
      go_ret3
      exact retIII_of HF.out.symm HS.out.symm HO.out.symm (HA.out _ _)
    · have HS := Lib.hid (sLast_end hlt)
      go_enter Try.func52, Try.ntmps52
      go_wp2
      go_quiet (fail)
      go_wp2
      go_ret3
      exact retIII_of HF.out.symm HS.out.symm HO.out.symm (HA.out _ _)
end
end Go.Proofs.Ytagkdkkpgcolkaa
