/-
  Chapter 10: Span of both packages.
-/
import Derived.Test.YtagkdkkpgcolkaaClock
import Derived.Test.YtagkdkkpgcolkaaPlain4
import Derived.Test.YtagkdkkpgcolkaaRef4c
import Derived.Test.YtagkdkkpgcolkaaPair
namespace Go.Proofs.Ytagkdkkpgcolkaa
open Go.RowKit
set_option linter.unusedVariables false
set_option linter.unusedSimpArgs false

abbrev fldP (d st mi : Int) : Prop := 0 ≤ d ∧ d ≤ 84005 ∧ 0 ≤ st ∧ st ≤ 1439 ∧ 1 ≤ mi ∧ mi ≤ 1440
section
variable (o : Int) (l : List (Int × Int)) (d st mi : Int)
noncomputable def spE : Int := if zerr o l = 0 then (if fldP d st mi ∧ firstV o l (d * 1440 + st) + mi ≤ 120968640 then 0 else 2) else zerr o l
noncomputable def spA : Int := if spE o l d st mi = 0 then firstV o l (d * 1440 + st) else 0
noncomputable def spB : Int := if spE o l d st mi = 0 then firstV o l (d * 1440 + st) + mi else 0
def SpanPost (w : World) (e : Ending) (w' : World) : Prop := e = .returned (.tuple #[.agg #[.int .i64 (spA o l d st mi), .int .i64 (spB o l d st mi)], .int .i64 (spE o l d st mi)]) ∧ Below w.heap.size w w'
end
section
variable {o : Int} {l : List (Int × Int)} {d st mi : Int}
theorem sp_zone (h : ¬ zerr o l = 0) : spA o l d st mi = 0 ∧ spB o l d st mi = 0 ∧ spE o l d st mi = zerr o l := by
  have e : spE o l d st mi = zerr o l := by unfold spE; rw [if_neg h]
  unfold spA spB
  rw [e, if_neg h, if_neg h]
  exact ⟨rfl, rfl, rfl⟩
theorem sp_two (h : spE o l d st mi = 2) : spA o l d st mi = 0 ∧ spB o l d st mi = 0 ∧ spE o l d st mi = 2 := by
  unfold spA spB
  rw [h]
  exact ⟨rfl, rfl, rfl⟩
theorem sp_fld (h : zerr o l = 0) (h1 : ¬ fldP d st mi) : spA o l d st mi = 0 ∧ spB o l d st mi = 0 ∧ spE o l d st mi = 2 := sp_two (by unfold spE; rw [if_pos h, if_neg (fun h => h1 h.1)])
theorem sp_end (h : zerr o l = 0) (h1 : fldP d st mi) (h2 : ¬ firstV o l (d * 1440 + st) + mi ≤ 120968640) : spA o l d st mi = 0 ∧ spB o l d st mi = 0 ∧ spE o l d st mi = 2 := sp_two (by unfold spE; rw [if_pos h, if_neg (fun h => h2 h.2)])
theorem sp_ok (h : zerr o l = 0) (h1 : fldP d st mi) (h2 : firstV o l (d * 1440 + st) + mi ≤ 120968640) : spA o l d st mi = firstV o l (d * 1440 + st) ∧ spB o l d st mi = firstV o l (d * 1440 + st) + mi ∧ spE o l d st mi = 0 := by
  have e : spE o l d st mi = 0 := by unfold spE; rw [if_pos h, if_pos ⟨h1, h2⟩]
  unfold spA spB
  rw [e]
  exact ⟨rfl, rfl, rfl⟩
end
structure SPX (w : World) (zs ss : Array Value) (W : World) : Prop where
  below : Below w.heap.size w W
  b0 : Blk W w.heap.size 25 zs
  b1 : Blk W (w.heap.size + 1) 42 ss
  b2 : Blk W (w.heap.size + 2) 38 #[.int .i64 0, .int .i64 0]
theorem SPX.start (w : World) (zs ss : Array Value) : SPX w zs ss (((w.alloc (.cells zs 25)).alloc (.cells ss 42)).alloc (.cells #[.int .i64 0, .int .i64 0] 38)) :=
  ⟨(((Below.refl _ _).alloc (Nat.le_refl _) _).alloc (by simp) _).alloc (by simp; omega) _, ((Blk.new _ _ _).alloc _).alloc _, (Blk.new' (by simp)).alloc _, Blk.new' (by simp)⟩
theorem SPX.calc_ {w W W' : World} {zs ss : Array Value} (h : SPX w zs ss W) (hb : Below W.heap.size W W') : SPX w zs ss W' :=
  ⟨h.below.trans (hb.mono h.below.size), h.b0.below hb h.b0.lt, h.b1.below hb h.b1.lt, h.b2.below hb h.b2.lt⟩
theorem sp_below {w W : World} {zs ss : Array Value} (h : SPX w zs ss W) (a b : Value) : Below w.heap.size w ((W.setCell ⟨w.heap.size + 2, 0, none⟩ a).setCell ⟨w.heap.size + 2, 1, none⟩ b) :=
  h.below.trans ((((Only.refl (w.heap.size + 2) W).setCell (p := ⟨w.heap.size + 2, 0, none⟩) (.inl rfl) a).setCell (p := ⟨w.heap.size + 2, 1, none⟩) (.inl rfl) b).below h.below.size (by omega))
def RetI0 (b : Bool) (w : World) (e : Ending) (w' : World) : Prop := e = .returned (.bool b) ∧ Below w.heap.size w w'
theorem fields_any (d st mi : Int) (w : World) : Calls Try.prog 34 #[.agg #[.int .i64 d, .int .i64 st, .int .i64 mi]] w (RetI0 (decide (fldP d st mi)) w) := by
  have HB : Hid (∀ o, Below w.heap.size w (w.alloc o)) := Lib.hid (fun o => (Below.refl _ _).alloc (Nat.le_refl _) o)
  rcases bool_cases (0 ≤ d) with t0 | t0
  rotate_left
  · have HN : Hid (decide (fldP d st mi) = false) := Lib.hid (decide_eq_false (fun h => by simp at t0; unfold fldP at h; omega))
    go_enter Try.func34, Try.ntmps34
    go_wp2
    go_ret
    exact ⟨ret_bool HN.out.symm, HB.out _⟩
  rcases bool_cases (d ≤ 84005) with t1 | t1
  rotate_left
  · have HN : Hid (decide (fldP d st mi) = false) := Lib.hid (decide_eq_false (fun h => by simp at t1; unfold fldP at h; omega))
    go_enter Try.func34, Try.ntmps34
    go_wp2
    go_ret
    exact ⟨ret_bool HN.out.symm, HB.out _⟩
  rcases bool_cases (0 ≤ st) with t2 | t2
  rotate_left
  · have HN : Hid (decide (fldP d st mi) = false) := Lib.hid (decide_eq_false (fun h => by simp at t2; unfold fldP at h; omega))
    go_enter Try.func34, Try.ntmps34
    go_wp2
    go_ret
    exact ⟨ret_bool HN.out.symm, HB.out _⟩
  rcases bool_cases (st ≤ 1439) with t3 | t3
  rotate_left
  · have HN : Hid (decide (fldP d st mi) = false) := Lib.hid (decide_eq_false (fun h => by simp at t3; unfold fldP at h; omega))
    go_enter Try.func34, Try.ntmps34
    go_wp2
    go_ret
    exact ⟨ret_bool HN.out.symm, HB.out _⟩
  rcases bool_cases (1 ≤ mi) with t4 | t4
  rotate_left
  · have HN : Hid (decide (fldP d st mi) = false) := Lib.hid (decide_eq_false (fun h => by simp at t4; unfold fldP at h; omega))
    go_enter Try.func34, Try.ntmps34
    go_wp2
    go_ret
    exact ⟨ret_bool HN.out.symm, HB.out _⟩
  rcases bool_cases (mi ≤ 1440) with t5 | t5
  rotate_left
  · have HN : Hid (decide (fldP d st mi) = false) := Lib.hid (decide_eq_false (fun h => by simp at t5; unfold fldP at h; omega))
    go_enter Try.func34, Try.ntmps34
    go_wp2
    go_ret
    exact ⟨ret_bool HN.out.symm, HB.out _⟩
  have HN : Hid (decide (fldP d st mi) = true) := Lib.hid (decide_eq_true (by simp at t0 t1 t2 t3 t4 t5; exact ⟨t0, t1, t2, t3, t4, t5⟩))
  go_enter Try.func34, Try.ntmps34
  go_wp2
  go_ret
  exact ⟨ret_bool HN.out.symm, HB.out _⟩
set_option maxHeartbeats 1600000 in
theorem span_any (o : Int) (A : Option Addr) (c : Nat) (l : List (Int × Int)) (d st mi : Int) (w : World) (hr : RdP w w.heap.size A l) (hl : l.length ≤ 9223372036854775807) : Calls Try.prog 18 #[.agg #[.int .i64 o, .slice A l.length c], .agg #[.int .i64 d, .int .i64 st, .int .i64 mi]] w (SpanPost o l d st mi w) := by
  have HV : Hid (∀ W, SPX w #[.int .i64 o, .slice A l.length c] #[.int .i64 d, .int .i64 st, .int .i64 mi] W → Calls Try.prog 32 #[.agg #[.int .i64 o, .slice A l.length c]] W (RetI (zerr o l) W)) := Lib.hid (fun W h => cvalid_any A c W.heap.size o l W (Rd.more (hr.below h.below) h.below.size) (Nat.le_refl _) hl)
  have HF : Hid (∀ W, SPX w #[.int .i64 o, .slice A l.length c] #[.int .i64 d, .int .i64 st, .int .i64 mi] W → Calls Try.prog 33 #[.agg #[.int .i64 o, .slice A l.length c], .int .i64 (d * 1440 + st)] W (RetII (firstR o l (d * 1440 + st)) (zerr o l) W)) := Lib.hid (fun W h => first_any A c W.heap.size o l W (Rd.more (hr.below h.below) h.below.size) (Nat.le_refl _) hl (d * 1440 + st))
  have HS := Lib.hid (SPX.start w #[.int .i64 o, .slice A l.length c] #[.int .i64 d, .int .i64 st, .int .i64 mi])
  clear hr
  by_cases hz : zerr o l = 0
  rotate_left
  · have HN := Lib.hid (sp_zone (d := d) (st := st) (mi := mi) hz)
    have hz' : (zerr o l != 0) = true := by simpa using hz
    clear hz
    generalize zerr o l = ze at *
    go_enter Try.func18, Try.ntmps18
    go_wp2_with fail
    refine (HV.out _ HS.out).mono ?_
    rintro e w1 ⟨rfl, hb⟩
    have HS := Lib.hid (HS.out.calc_ hb)
    clear hb
    have z0 := HS.out.b0.cell 0
    have z1 := HS.out.b0.cell 1
    have s0 := HS.out.b1.cell 0
    have s1 := HS.out.b1.cell 1
    have s2 := HS.out.b1.cell 2
    have r0 := HS.out.b2.cell 0
    have r1 := HS.out.b2.cell 1
    have rf0 := HS.out.b2.frozen 0
    have rf1 := HS.out.b2.frozen 1
    simp at z0 z1 s0 s1 s2 r0 r1
    go_wp2
    refine bodyPost_ret (v := .tuple #[.agg #[.int .i64 0, .int .i64 0], .int .i64 ze]) (by simp [results, Try.results18, go_sem, r0, r1]) rfl ?_
    exact ⟨by rw [HN.out.1, HN.out.2.1, HN.out.2.2], sp_below HS.out _ _⟩
  · have HB : Hid (0 ≤ firstV o l (d * 1440 + st) ∧ firstV o l (d * 1440 + st) ≤ 120968640) := Lib.hid (firstV_bd (zval_of hz) _)
    have HR : Hid (firstR o l (d * 1440 + st) = firstV o l (d * 1440 + st)) := Lib.hid (if_pos hz)
    have HE1 : Hid (¬ fldP d st mi → spA o l d st mi = 0 ∧ spB o l d st mi = 0 ∧ spE o l d st mi = 2) := Lib.hid (sp_fld hz)
    have HE2 : Hid (fldP d st mi → ¬ firstV o l (d * 1440 + st) + mi ≤ 120968640 → spA o l d st mi = 0 ∧ spB o l d st mi = 0 ∧ spE o l d st mi = 2) := Lib.hid (sp_end hz)
    have HE3 : Hid (fldP d st mi → firstV o l (d * 1440 + st) + mi ≤ 120968640 → spA o l d st mi = firstV o l (d * 1440 + st) ∧ spB o l d st mi = firstV o l (d * 1440 + st) + mi ∧ spE o l d st mi = 0) := Lib.hid (sp_ok hz)
    rw [hz] at HV HF
    rw [HR.out] at HF
    clear hz HR
    generalize firstV o l (d * 1440 + st) = fv at *
    by_cases hf : fldP d st mi
    rotate_left
    · have HN := Lib.hid (HE1.out hf)
      clear HE1 HE2 HE3
      rcases bool_cases (d < 0) with t0 | t0
      · clear hf
        go_enter Try.func18, Try.ntmps18
        go_wp2_with fail
        refine (HV.out _ HS.out).mono ?_
        rintro e w1 ⟨rfl, hb⟩
        have HS := Lib.hid (HS.out.calc_ hb)
        clear hb
        have z0 := HS.out.b0.cell 0
        have z1 := HS.out.b0.cell 1
        have s0 := HS.out.b1.cell 0
        have s1 := HS.out.b1.cell 1
        have s2 := HS.out.b1.cell 2
        have r0 := HS.out.b2.cell 0
        have r1 := HS.out.b2.cell 1
        have rf0 := HS.out.b2.frozen 0
        have rf1 := HS.out.b2.frozen 1
        simp at z0 z1 s0 s1 s2 r0 r1
        go_wp2
        refine bodyPost_ret (v := .tuple #[.agg #[.int .i64 0, .int .i64 0], .int .i64 2]) (by simp [results, Try.results18, go_sem, r0, r1]) rfl ?_
        exact ⟨by rw [HN.out.1, HN.out.2.1, HN.out.2.2], sp_below HS.out _ _⟩
      rcases bool_cases (84005 < d) with t1 | t1
      · clear hf
        go_enter Try.func18, Try.ntmps18
        go_wp2_with fail
        refine (HV.out _ HS.out).mono ?_
        rintro e w1 ⟨rfl, hb⟩
        have HS := Lib.hid (HS.out.calc_ hb)
        clear hb
        have z0 := HS.out.b0.cell 0
        have z1 := HS.out.b0.cell 1
        have s0 := HS.out.b1.cell 0
        have s1 := HS.out.b1.cell 1
        have s2 := HS.out.b1.cell 2
        have r0 := HS.out.b2.cell 0
        have r1 := HS.out.b2.cell 1
        have rf0 := HS.out.b2.frozen 0
        have rf1 := HS.out.b2.frozen 1
        simp at z0 z1 s0 s1 s2 r0 r1
        go_wp2
        refine bodyPost_ret (v := .tuple #[.agg #[.int .i64 0, .int .i64 0], .int .i64 2]) (by simp [results, Try.results18, go_sem, r0, r1]) rfl ?_
        exact ⟨by rw [HN.out.1, HN.out.2.1, HN.out.2.2], sp_below HS.out _ _⟩
      rcases bool_cases (st < 0) with t2 | t2
      · clear hf
        go_enter Try.func18, Try.ntmps18
        go_wp2_with fail
        refine (HV.out _ HS.out).mono ?_
        rintro e w1 ⟨rfl, hb⟩
        have HS := Lib.hid (HS.out.calc_ hb)
        clear hb
        have z0 := HS.out.b0.cell 0
        have z1 := HS.out.b0.cell 1
        have s0 := HS.out.b1.cell 0
        have s1 := HS.out.b1.cell 1
        have s2 := HS.out.b1.cell 2
        have r0 := HS.out.b2.cell 0
        have r1 := HS.out.b2.cell 1
        have rf0 := HS.out.b2.frozen 0
        have rf1 := HS.out.b2.frozen 1
        simp at z0 z1 s0 s1 s2 r0 r1
        go_wp2
        refine bodyPost_ret (v := .tuple #[.agg #[.int .i64 0, .int .i64 0], .int .i64 2]) (by simp [results, Try.results18, go_sem, r0, r1]) rfl ?_
        exact ⟨by rw [HN.out.1, HN.out.2.1, HN.out.2.2], sp_below HS.out _ _⟩
      rcases bool_cases (1440 ≤ st) with t3 | t3
      · clear hf
        go_enter Try.func18, Try.ntmps18
        go_wp2_with fail
        refine (HV.out _ HS.out).mono ?_
        rintro e w1 ⟨rfl, hb⟩
        have HS := Lib.hid (HS.out.calc_ hb)
        clear hb
        have z0 := HS.out.b0.cell 0
        have z1 := HS.out.b0.cell 1
        have s0 := HS.out.b1.cell 0
        have s1 := HS.out.b1.cell 1
        have s2 := HS.out.b1.cell 2
        have r0 := HS.out.b2.cell 0
        have r1 := HS.out.b2.cell 1
        have rf0 := HS.out.b2.frozen 0
        have rf1 := HS.out.b2.frozen 1
        simp at z0 z1 s0 s1 s2 r0 r1
        go_wp2
        refine bodyPost_ret (v := .tuple #[.agg #[.int .i64 0, .int .i64 0], .int .i64 2]) (by simp [results, Try.results18, go_sem, r0, r1]) rfl ?_
        exact ⟨by rw [HN.out.1, HN.out.2.1, HN.out.2.2], sp_below HS.out _ _⟩
      rcases bool_cases (mi < 1) with t4 | t4
      · clear hf
        go_enter Try.func18, Try.ntmps18
        go_wp2_with fail
        refine (HV.out _ HS.out).mono ?_
        rintro e w1 ⟨rfl, hb⟩
        have HS := Lib.hid (HS.out.calc_ hb)
        clear hb
        have z0 := HS.out.b0.cell 0
        have z1 := HS.out.b0.cell 1
        have s0 := HS.out.b1.cell 0
        have s1 := HS.out.b1.cell 1
        have s2 := HS.out.b1.cell 2
        have r0 := HS.out.b2.cell 0
        have r1 := HS.out.b2.cell 1
        have rf0 := HS.out.b2.frozen 0
        have rf1 := HS.out.b2.frozen 1
        simp at z0 z1 s0 s1 s2 r0 r1
        go_wp2
        refine bodyPost_ret (v := .tuple #[.agg #[.int .i64 0, .int .i64 0], .int .i64 2]) (by simp [results, Try.results18, go_sem, r0, r1]) rfl ?_
        exact ⟨by rw [HN.out.1, HN.out.2.1, HN.out.2.2], sp_below HS.out _ _⟩
      have t5 : decide (1440 < mi) = true := by simp at t0 t1 t2 t3 t4; simp; omega
      clear hf
      go_enter Try.func18, Try.ntmps18
      go_wp2_with fail
      refine (HV.out _ HS.out).mono ?_
      rintro e w1 ⟨rfl, hb⟩
      have HS := Lib.hid (HS.out.calc_ hb)
      clear hb
      have z0 := HS.out.b0.cell 0
      have z1 := HS.out.b0.cell 1
      have s0 := HS.out.b1.cell 0
      have s1 := HS.out.b1.cell 1
      have s2 := HS.out.b1.cell 2
      have r0 := HS.out.b2.cell 0
      have r1 := HS.out.b2.cell 1
      have rf0 := HS.out.b2.frozen 0
      have rf1 := HS.out.b2.frozen 1
      simp at z0 z1 s0 s1 s2 r0 r1
      go_wp2
      refine bodyPost_ret (v := .tuple #[.agg #[.int .i64 0, .int .i64 0], .int .i64 2]) (by simp [results, Try.results18, go_sem, r0, r1]) rfl ?_
      exact ⟨by rw [HN.out.1, HN.out.2.1, HN.out.2.2], sp_below HS.out _ _⟩
    · skip
      obtain ⟨f1, f2, f3, f4, f5, f6⟩ := hf
      have hfl : fldP d st mi := ⟨f1, f2, f3, f4, f5, f6⟩
      obtain ⟨hb0, hb1⟩ := HB.out
      have t0 : decide (d < 0) = false := by simp; omega
      have t1 : decide (84005 < d) = false := by simp; omega
      have t2 : decide (st < 0) = false := by simp; omega
      have t3 : decide (1440 ≤ st) = false := by simp; omega
      have t4 : decide (mi < 1) = false := by simp; omega
      have t5 : decide (1440 < mi) = false := by simp; omega
      rcases bool_cases (120968640 < fv + mi) with u | u
      · have HN := Lib.hid (HE2.out hfl (by simp at u; omega))
        clear HE1 HE2 HE3 hfl
        go_enter Try.func18, Try.ntmps18
        go_wp2_with fail
        refine (HV.out _ HS.out).mono ?_
        rintro e w1 ⟨rfl, hb⟩
        have HS := Lib.hid (HS.out.calc_ hb)
        clear hb
        have z0 := HS.out.b0.cell 0
        have z1 := HS.out.b0.cell 1
        have s0 := HS.out.b1.cell 0
        have s1 := HS.out.b1.cell 1
        have s2 := HS.out.b1.cell 2
        have r0 := HS.out.b2.cell 0
        have r1 := HS.out.b2.cell 1
        have rf0 := HS.out.b2.frozen 0
        have rf1 := HS.out.b2.frozen 1
        simp at z0 z1 s0 s1 s2 r0 r1
        go_wp2_with fail
        refine (HF.out _ HS.out).mono ?_
        rintro e w3 ⟨rfl, hb⟩
        have HS := Lib.hid (HS.out.calc_ hb)
        clear hb z0 z1 s0 s1 s2 r0 r1 rf0 rf1
        have z0 := HS.out.b0.cell 0
        have z1 := HS.out.b0.cell 1
        have s0 := HS.out.b1.cell 0
        have s1 := HS.out.b1.cell 1
        have s2 := HS.out.b1.cell 2
        have r0 := HS.out.b2.cell 0
        have r1 := HS.out.b2.cell 1
        have rf0 := HS.out.b2.frozen 0
        have rf1 := HS.out.b2.frozen 1
        simp at z0 z1 s0 s1 s2 r0 r1
        go_wp2
        refine bodyPost_ret (v := .tuple #[.agg #[.int .i64 0, .int .i64 0], .int .i64 2]) (by simp [results, Try.results18, go_sem, r0, r1]) rfl ?_
        exact ⟨by rw [HN.out.1, HN.out.2.1, HN.out.2.2], sp_below HS.out _ _⟩
      · have HN := Lib.hid (HE3.out hfl (by simp at u; omega))
        clear HE1 HE2 HE3 hfl
        go_enter Try.func18, Try.ntmps18
        go_wp2_with fail
        refine (HV.out _ HS.out).mono ?_
        rintro e w1 ⟨rfl, hb⟩
        have HS := Lib.hid (HS.out.calc_ hb)
        clear hb
        have z0 := HS.out.b0.cell 0
        have z1 := HS.out.b0.cell 1
        have s0 := HS.out.b1.cell 0
        have s1 := HS.out.b1.cell 1
        have s2 := HS.out.b1.cell 2
        have r0 := HS.out.b2.cell 0
        have r1 := HS.out.b2.cell 1
        have rf0 := HS.out.b2.frozen 0
        have rf1 := HS.out.b2.frozen 1
        simp at z0 z1 s0 s1 s2 r0 r1
        go_wp2_with fail
        refine (HF.out _ HS.out).mono ?_
        rintro e w3 ⟨rfl, hb⟩
        have HS := Lib.hid (HS.out.calc_ hb)
        clear hb z0 z1 s0 s1 s2 r0 r1 rf0 rf1
        have z0 := HS.out.b0.cell 0
        have z1 := HS.out.b0.cell 1
        have s0 := HS.out.b1.cell 0
        have s1 := HS.out.b1.cell 1
        have s2 := HS.out.b1.cell 2
        have r0 := HS.out.b2.cell 0
        have r1 := HS.out.b2.cell 1
        have rf0 := HS.out.b2.frozen 0
        have rf1 := HS.out.b2.frozen 1
        simp at z0 z1 s0 s1 s2 r0 r1
        go_wp2
        refine bodyPost_ret (v := .tuple #[.agg #[.int .i64 fv, .int .i64 (fv + mi)], .int .i64 0]) (by simp [results, Try.results18, go_sem, r0, r1]) rfl ?_
        exact ⟨by rw [HN.out.1, HN.out.2.1, HN.out.2.2], sp_below HS.out _ _⟩
set_option maxHeartbeats 1600000 in
theorem rspan_any (o : Int) (A : Option Addr) (c : Nat) (l : List (Int × Int)) (d st mi : Int) (w : World) (hr : RdP w w.heap.size A l) (hl : l.length ≤ 9223372036854775807) : Calls Try.prog 19 #[.agg #[.int .i64 o, .slice A l.length c], .agg #[.int .i64 d, .int .i64 st, .int .i64 mi]] w (SpanPost o l d st mi w) := by
  have HV : Hid (∀ W, SPX w #[.int .i64 o, .slice A l.length c] #[.int .i64 d, .int .i64 st, .int .i64 mi] W → Calls Try.prog 31 #[.agg #[.int .i64 o, .slice A l.length c]] W (RetI (zerr o l) W)) := Lib.hid (fun W h => rvalid_any A c W.heap.size o l W (Rd.more (hr.below h.below) h.below.size) (Nat.le_refl _) hl)
  have HF : Hid (∀ W, SPX w #[.int .i64 o, .slice A l.length c] #[.int .i64 d, .int .i64 st, .int .i64 mi] W → Calls Try.prog 35 #[.agg #[.int .i64 o, .slice A l.length c], .int .i64 (d * 1440 + st)] W (RetII (firstR o l (d * 1440 + st)) (zerr o l) W)) := Lib.hid (fun W h => rFirst_any A c W.heap.size o l W (Rd.more (hr.below h.below) h.below.size) (Nat.le_refl _) hl (d * 1440 + st))
  have HS := Lib.hid (SPX.start w #[.int .i64 o, .slice A l.length c] #[.int .i64 d, .int .i64 st, .int .i64 mi])
  clear hr
  by_cases hz : zerr o l = 0
  rotate_left
  · have HN := Lib.hid (sp_zone (d := d) (st := st) (mi := mi) hz)
    have hz' : (zerr o l != 0) = true := by simpa using hz
    clear hz
    generalize zerr o l = ze at *
    go_enter Try.func19, Try.ntmps19
    go_wp2_with fail
    refine (HV.out _ HS.out).mono ?_
    rintro e w1 ⟨rfl, hb⟩
    have HS := Lib.hid (HS.out.calc_ hb)
    clear hb
    have z0 := HS.out.b0.cell 0
    have z1 := HS.out.b0.cell 1
    have s0 := HS.out.b1.cell 0
    have s1 := HS.out.b1.cell 1
    have s2 := HS.out.b1.cell 2
    have r0 := HS.out.b2.cell 0
    have r1 := HS.out.b2.cell 1
    have rf0 := HS.out.b2.frozen 0
    have rf1 := HS.out.b2.frozen 1
    simp at z0 z1 s0 s1 s2 r0 r1
    go_wp2
    refine bodyPost_ret (v := .tuple #[.agg #[.int .i64 0, .int .i64 0], .int .i64 ze]) (by simp [results, Try.results19, go_sem, r0, r1]) rfl ?_
    exact ⟨by rw [HN.out.1, HN.out.2.1, HN.out.2.2], sp_below HS.out _ _⟩
  · have HB : Hid (0 ≤ firstV o l (d * 1440 + st) ∧ firstV o l (d * 1440 + st) ≤ 120968640) := Lib.hid (firstV_bd (zval_of hz) _)
    have HR : Hid (firstR o l (d * 1440 + st) = firstV o l (d * 1440 + st)) := Lib.hid (if_pos hz)
    have HE1 : Hid (¬ fldP d st mi → spA o l d st mi = 0 ∧ spB o l d st mi = 0 ∧ spE o l d st mi = 2) := Lib.hid (sp_fld hz)
    have HE2 : Hid (fldP d st mi → ¬ firstV o l (d * 1440 + st) + mi ≤ 120968640 → spA o l d st mi = 0 ∧ spB o l d st mi = 0 ∧ spE o l d st mi = 2) := Lib.hid (sp_end hz)
    have HE3 : Hid (fldP d st mi → firstV o l (d * 1440 + st) + mi ≤ 120968640 → spA o l d st mi = firstV o l (d * 1440 + st) ∧ spB o l d st mi = firstV o l (d * 1440 + st) + mi ∧ spE o l d st mi = 0) := Lib.hid (sp_ok hz)
    rw [hz] at HV HF
    rw [HR.out] at HF
    clear hz HR
    generalize firstV o l (d * 1440 + st) = fv at *
    have HFL : Hid (∀ W, Calls Try.prog 34 #[.agg #[.int .i64 d, .int .i64 st, .int .i64 mi]] W (RetI0 (decide (fldP d st mi)) W)) := Lib.hid (fun W => fields_any d st mi W)
    by_cases hf : fldP d st mi
    rotate_left
    · have HN := Lib.hid (HE1.out hf)
      rw [decide_eq_false hf] at HFL
      clear HE1 HE2 HE3 hf
      go_enter Try.func19, Try.ntmps19
      go_wp2_with fail
      refine (HV.out _ HS.out).mono ?_
      rintro e w1 ⟨rfl, hb⟩
      have HS := Lib.hid (HS.out.calc_ hb)
      clear hb
      have z0 := HS.out.b0.cell 0
      have z1 := HS.out.b0.cell 1
      have s0 := HS.out.b1.cell 0
      have s1 := HS.out.b1.cell 1
      have s2 := HS.out.b1.cell 2
      have r0 := HS.out.b2.cell 0
      have r1 := HS.out.b2.cell 1
      have rf0 := HS.out.b2.frozen 0
      have rf1 := HS.out.b2.frozen 1
      simp at z0 z1 s0 s1 s2 r0 r1
      go_wp2_with fail
      refine (HFL.out _).mono ?_
      rintro e w2 ⟨rfl, hb⟩
      have HS := Lib.hid (HS.out.calc_ hb)
      clear hb z0 z1 s0 s1 s2 r0 r1 rf0 rf1
      have z0 := HS.out.b0.cell 0
      have z1 := HS.out.b0.cell 1
      have s0 := HS.out.b1.cell 0
      have s1 := HS.out.b1.cell 1
      have s2 := HS.out.b1.cell 2
      have r0 := HS.out.b2.cell 0
      have r1 := HS.out.b2.cell 1
      have rf0 := HS.out.b2.frozen 0
      have rf1 := HS.out.b2.frozen 1
      simp at z0 z1 s0 s1 s2 r0 r1
      go_wp2
      refine bodyPost_ret (v := .tuple #[.agg #[.int .i64 0, .int .i64 0], .int .i64 2]) (by simp [results, Try.results19, go_sem, r0, r1]) rfl ?_
      exact ⟨by rw [HN.out.1, HN.out.2.1, HN.out.2.2], sp_below HS.out _ _⟩
    · rw [decide_eq_true hf] at HFL
      obtain ⟨f1, f2, f3, f4, f5, f6⟩ := hf
      have hfl : fldP d st mi := ⟨f1, f2, f3, f4, f5, f6⟩
      obtain ⟨hb0, hb1⟩ := HB.out
      rcases bool_cases (120968640 < fv + mi) with u | u
      · have HN := Lib.hid (HE2.out hfl (by simp at u; omega))
        clear HE1 HE2 HE3 hfl
        go_enter Try.func19, Try.ntmps19
        go_wp2_with fail
        refine (HV.out _ HS.out).mono ?_
        rintro e w1 ⟨rfl, hb⟩
        have HS := Lib.hid (HS.out.calc_ hb)
        clear hb
        have z0 := HS.out.b0.cell 0
        have z1 := HS.out.b0.cell 1
        have s0 := HS.out.b1.cell 0
        have s1 := HS.out.b1.cell 1
        have s2 := HS.out.b1.cell 2
        have r0 := HS.out.b2.cell 0
        have r1 := HS.out.b2.cell 1
        have rf0 := HS.out.b2.frozen 0
        have rf1 := HS.out.b2.frozen 1
        simp at z0 z1 s0 s1 s2 r0 r1
        go_wp2_with fail
        refine (HFL.out _).mono ?_
        rintro e w2 ⟨rfl, hb⟩
        have HS := Lib.hid (HS.out.calc_ hb)
        clear hb z0 z1 s0 s1 s2 r0 r1 rf0 rf1
        have z0 := HS.out.b0.cell 0
        have z1 := HS.out.b0.cell 1
        have s0 := HS.out.b1.cell 0
        have s1 := HS.out.b1.cell 1
        have s2 := HS.out.b1.cell 2
        have r0 := HS.out.b2.cell 0
        have r1 := HS.out.b2.cell 1
        have rf0 := HS.out.b2.frozen 0
        have rf1 := HS.out.b2.frozen 1
        simp at z0 z1 s0 s1 s2 r0 r1
        go_wp2_with fail
        refine (HF.out _ HS.out).mono ?_
        rintro e w3 ⟨rfl, hb⟩
        have HS := Lib.hid (HS.out.calc_ hb)
        clear hb z0 z1 s0 s1 s2 r0 r1 rf0 rf1
        have z0 := HS.out.b0.cell 0
        have z1 := HS.out.b0.cell 1
        have s0 := HS.out.b1.cell 0
        have s1 := HS.out.b1.cell 1
        have s2 := HS.out.b1.cell 2
        have r0 := HS.out.b2.cell 0
        have r1 := HS.out.b2.cell 1
        have rf0 := HS.out.b2.frozen 0
        have rf1 := HS.out.b2.frozen 1
        simp at z0 z1 s0 s1 s2 r0 r1
        go_wp2
        refine bodyPost_ret (v := .tuple #[.agg #[.int .i64 0, .int .i64 0], .int .i64 2]) (by simp [results, Try.results19, go_sem, r0, r1]) rfl ?_
        exact ⟨by rw [HN.out.1, HN.out.2.1, HN.out.2.2], sp_below HS.out _ _⟩
      · have HN := Lib.hid (HE3.out hfl (by simp at u; omega))
        clear HE1 HE2 HE3 hfl
        go_enter Try.func19, Try.ntmps19
        go_wp2_with fail
        refine (HV.out _ HS.out).mono ?_
        rintro e w1 ⟨rfl, hb⟩
        have HS := Lib.hid (HS.out.calc_ hb)
        clear hb
        have z0 := HS.out.b0.cell 0
        have z1 := HS.out.b0.cell 1
        have s0 := HS.out.b1.cell 0
        have s1 := HS.out.b1.cell 1
        have s2 := HS.out.b1.cell 2
        have r0 := HS.out.b2.cell 0
        have r1 := HS.out.b2.cell 1
        have rf0 := HS.out.b2.frozen 0
        have rf1 := HS.out.b2.frozen 1
        simp at z0 z1 s0 s1 s2 r0 r1
        go_wp2_with fail
        refine (HFL.out _).mono ?_
        rintro e w2 ⟨rfl, hb⟩
        have HS := Lib.hid (HS.out.calc_ hb)
        clear hb z0 z1 s0 s1 s2 r0 r1 rf0 rf1
        have z0 := HS.out.b0.cell 0
        have z1 := HS.out.b0.cell 1
        have s0 := HS.out.b1.cell 0
        have s1 := HS.out.b1.cell 1
        have s2 := HS.out.b1.cell 2
        have r0 := HS.out.b2.cell 0
        have r1 := HS.out.b2.cell 1
        have rf0 := HS.out.b2.frozen 0
        have rf1 := HS.out.b2.frozen 1
        simp at z0 z1 s0 s1 s2 r0 r1
        go_wp2_with fail
        refine (HF.out _ HS.out).mono ?_
        rintro e w3 ⟨rfl, hb⟩
        have HS := Lib.hid (HS.out.calc_ hb)
        clear hb z0 z1 s0 s1 s2 r0 r1 rf0 rf1
        have z0 := HS.out.b0.cell 0
        have z1 := HS.out.b0.cell 1
        have s0 := HS.out.b1.cell 0
        have s1 := HS.out.b1.cell 1
        have s2 := HS.out.b1.cell 2
        have r0 := HS.out.b2.cell 0
        have r1 := HS.out.b2.cell 1
        have rf0 := HS.out.b2.frozen 0
        have rf1 := HS.out.b2.frozen 1
        simp at z0 z1 s0 s1 s2 r0 r1
        go_wp2
        refine bodyPost_ret (v := .tuple #[.agg #[.int .i64 fv, .int .i64 (fv + mi)], .int .i64 0]) (by simp [results, Try.results19, go_sem, r0, r1]) rfl ?_
        exact ⟨by rw [HN.out.1, HN.out.2.1, HN.out.2.2], sp_below HS.out _ _⟩
end Go.Proofs.Ytagkdkkpgcolkaa
