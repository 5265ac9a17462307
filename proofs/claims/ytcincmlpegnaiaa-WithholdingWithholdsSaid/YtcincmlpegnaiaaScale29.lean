/-
  Contracts of Scale, of the program and of the reference: the same schedule, the same errors.
-/
import Derived.Test.YtcincmlpegnaiaaSplit29
import Derived.Test.YtcincmlpegnaiaaPlain29b
namespace Go.Proofs.Ytcincmlpegnaiaa
open Go.RowKit
set_option linter.unusedVariables false
set_option linter.unusedSimpArgs false

def scOk (num den : Int) : Prop := 1 ≤ den ∧ den ≤ 53 ∧ 0 ≤ num ∧ num ≤ den
noncomputable def scaleE (l : List (Int × Int)) (num den : Int) : Int := @ite _ (Val l) (Classical.propDecidable _) (@ite _ (scOk num den) (Classical.propDecidable _) 0 2) 1
noncomputable def scaleL (l : List (Int × Int)) (num den : Int) : List (Int × Int) := @ite _ (Val l ∧ scOk num den) (Classical.propDecidable _) (dd (sc l num den)) []
theorem scale_bad {l : List (Int × Int)} {num den : Int} (h : ¬ Val l) : scaleE l num den = 1 ∧ scaleL l num den = [] := by
  unfold scaleE scaleL; rw [if_neg h, if_neg (fun h' => h h'.1)]; exact ⟨rfl, rfl⟩
theorem scale_range {l : List (Int × Int)} {num den : Int} (h : Val l) (h2 : ¬ scOk num den) : scaleE l num den = 2 ∧ scaleL l num den = [] := by
  unfold scaleE scaleL; rw [if_pos h, if_neg h2, if_neg (fun h' => h2 h'.2)]; exact ⟨rfl, rfl⟩
theorem scale_ok {l : List (Int × Int)} {num den : Int} (h : Val l) (h2 : scOk num den) : scaleE l num den = 0 ∧ scaleL l num den = dd (sc l num den) := by
  unfold scaleE scaleL; rw [if_pos h, if_pos h2, if_pos ⟨h, h2⟩]; exact ⟨rfl, rfl⟩

def ScalePost (l : List (Int × Int)) (num den : Int) (w : World) (e : Ending) (w' : World) : Prop :=
  ∃ A c, e = .returned (.tuple #[.slice A (scaleL l num den).length c, .int .i64 (scaleE l num den)]) ∧ Below w.heap.size w w' ∧ RdP w' w'.heap.size A (scaleL l num den) ∧ ∀ b off, A = some ⟨b, off, none⟩ → w.heap.size ≤ b
theorem scale_no {l : List (Int × Int)} {num den : Int} {w w' : World} (k : Int) (h : scaleE l num den = k ∧ scaleL l num den = []) (hb : Below w.heap.size w w') : ScalePost l num den w (.returned (.tuple #[.slice none 0 0, .int .i64 k])) w' := by
  obtain ⟨h1, h2⟩ := h
  refine ⟨none, 0, by rw [h1, h2]; rfl, hb, ?_, fun b off e => by cases e⟩
  rw [h2]
  exact Rd.none_

/-- a slice of pairs in memory of the call's own -/
def OwnP (w : World) (base : Nat) (A : Option Addr) (c : Nat) (s : List (Int × Int)) : Prop := w.ownsRow base 54 2 (.slice A s.length c) s.length (flat s)
theorem scale_yes {l : List (Int × Int)} {num den : Int} {w w' : World} {A : Option Addr} {c : Nat} {s : List (Int × Int)} (h : scaleE l num den = 0 ∧ scaleL l num den = s) (hb : Below w.heap.size w w') (ho : OwnP w' w.heap.size A c s) :
    ScalePost l num den w (.returned (.tuple #[.slice A s.length c, .int .i64 0])) w' := by
  obtain ⟨h1, h2⟩ := h
  refine ⟨A, c, by rw [h1, h2], hb, ?_, ?_⟩
  · rw [h2]
    exact own_rd ho
  · rintro b off rfl
    exact (World.ownsRow.lt ho b rfl).1
theorem OwnP.nil (w : World) (base : Nat) : OwnP w base none 0 [] := World.ownsRow_nil w base _ 2
theorem OwnP.form {w : World} {base : Nat} {A : Option Addr} {c : Nat} {s : List (Int × Int)} {y : Int × Int} (h : OwnP w base A c (s ++ [y])) :
    ∃ g, A = some ⟨g, 0, none⟩ ∧ base ≤ g ∧ g < w.heap.size ∧ w.cell? ⟨g, s.length * 2, none⟩ = some (.int .i64 y.1) ∧ w.cell? ⟨g, s.length * 2 + 1, none⟩ = some (.int .i64 y.2) ∧ ∀ j, w.frozen? ⟨g, j, none⟩ = false := by
  obtain ⟨g, cap, hv, hb, hlt⟩ := World.ownsRow.form h (by simp)
  injection hv with hA _ hc
  subst hA
  subst hc
  have hg := flat_get (s ++ [y]) s.length (by simp)
  have hc := World.ownsRow.cells (g := g) h rfl
  rw [fst2_snoc, snd2_snoc] at hg
  refine ⟨g, rfl, hb, hlt, ?_, ?_, fun j => World.ownsRow.frozenAt h j⟩
  · simpa [Go.WideShapes.add_plain] using hc _ _ hg.1
  · simpa [Go.WideShapes.add_plain] using hc _ _ hg.2
theorem OwnP.alloc {w : World} {base : Nat} {A : Option Addr} {c : Nat} {s : List (Int × Int)} (h : OwnP w base A c s) (o : Obj) : OwnP (w.alloc o) base A c s := World.ownsRow.alloc h o
theorem OwnP.drewN {w : World} {base : Nat} {A : Option Addr} {c : Nat} {s : List (Int × Int)} (h : OwnP w base A c s) (n : Nat) : OwnP (w.drewN n) base A c s := h
theorem OwnP.put {w : World} {base : Nat} {g c : Nat} {s : List (Int × Int)} {y : Int × Int} (h : OwnP w base (some ⟨g, 0, none⟩) c (s ++ [y])) (a b : Int) :
    OwnP ((w.setCell ⟨g, s.length * 2, none⟩ (.int .i64 a)).setCell ⟨g, s.length * 2 + 1, none⟩ (.int .i64 b)) base (some ⟨g, 0, none⟩) c (s ++ [(a, b)]) := by
  have h1 := World.ownsRow.stored h (s.length * 2) (.int .i64 a)
  have h2 := (World.ownsRow.stored h1.1 (s.length * 2 + 1) (.int .i64 b)).1
  rw [flat_set] at h2
  unfold OwnP
  simpa using h2
theorem own_snoc {w : World} {base : Nat} {A : Option Addr} {c : Nat} {s : List (Int × Int)} {y x : Int × Int}
    (h : w.ownsRow base 54 2 (.slice A (s.length + 1 + 1) c) (s.length + 1 + 1) (flat (s ++ [y]) ++ [.int .i64 x.1, .int .i64 x.2])) : OwnP w base A c (s ++ [y] ++ [x]) := by
  unfold OwnP
  rw [flat_snoc (s ++ [y]) x]
  simpa using h
theorem own_snoc1 {w : World} {base : Nat} {A : Option Addr} {c : Nat} {s : List (Int × Int)} {x : Int × Int}
    (h : w.ownsRow base 54 2 (.slice A (s.length + 1) c) (s.length + 1) (flat s ++ [.int .i64 x.1, .int .i64 x.2])) : OwnP w base A c (s ++ [x]) := by
  unfold OwnP
  rw [flat_snoc s x]
  simpa using h
theorem own_len {w : World} {base : Nat} {A : Option Addr} {c : Nat} {s : List (Int × Int)} {y : Int × Int} (h : OwnP w base A c (s ++ [y])) :
    w.ownsRow base 54 2 (.slice A (s.length + 1) c) (s.length + 1) (flat (s ++ [y])) := by
  unfold OwnP at h
  simpa using h
theorem infoB : (Try.prog.info? 54).map (fun i => (i.zero, i.size, i.bytes)) = some (some (.agg #[.int .i64 0, .int .i64 0]), 2, 16) := by kernel_rfl

section
variable (A : Option Addr) (c B : Nat) (l : List (Int × Int)) (w : World) (hr : RdP w B A l) (hB : B ≤ w.heap.size) (hl : l.length ≤ 9223372036854775807)
include hr hB hl

set_option maxHeartbeats 1600000 in
theorem scale_any (num den : Int) : Calls Try.prog 47 #[.slice A l.length c, .int .i64 num, .int .i64 den] w (ScalePost l num den w) := by
  by_cases hV : Val l
  · have HC := Lib.hid (valid_t A c B l w hr hB hl hV)
    by_cases hs : scOk num den
    · have HS := Lib.hid (scale_ok hV hs)
      obtain ⟨b, off, rfl, hb, hc1, hc2⟩ := hr.all (by have := hV.1; omega)
      have HC1 := Lib.hid hc1
      have HC2 := Lib.hid hc2
      have HVl := Lib.hid hV
      have hl24 : l.length ≤ 24 := hV.2.1
      obtain ⟨s1, s2, s3, s4⟩ := hs
      have t1 : decide (den < 1) = false := by simp; omega
      have t2 : decide (53 < den) = false := by simp; omega
      have t3 : decide (num < 0) = false := by simp; omega
      have t4 : decide (den < num) = false := by simp; omega
      clear hr hc1 hc2 hV
      go_enter Try.func47, Try.ntmps47
      go_wp2_with fail
      refine HC.out.mono ?_
      rintro e w1 ⟨rfl, hb1⟩
      have HB1 := Lib.hid hb1
      clear hb1
      go_wp2
      go_loopw [8, 32] (fun v i wr => ∃ (k : Nat) (A1 : Option Addr) (c1 : Nat), k ≤ l.length ∧ i = .int .i64 k ∧ v = .slice A1 (scTo l num den k).length c1 ∧ OwnP wr w.heap.size A1 c1 (scTo l num den k) ∧ Below w.heap.size w wr) (fun _ i _ => l.length - (intOf i).toNat)
      case atStart => exact ⟨0, none, 0, Nat.zero_le _, rfl, rfl, OwnP.nil _ _, HB1.out⟩
      case round =>
        obtain ⟨k, A1, c1, hk, rfl, rfl, hown, hbl⟩ := hrel
        have HBL := Lib.hid hbl
        have HOW := Lib.hid hown
        clear hbl hown
        have hsz := HBL.out.size
        by_cases hlt : k < l.length
        · have e1 : wr.cell? ⟨b, off + k * 2, none⟩ = some (.int .i64 (fst2 l k)) := (HBL.out.cell (by show b < _; omega)).trans (HC1.out k hlt)
          have e2 : wr.cell? ⟨b, off + k * 2 + 1, none⟩ = some (.int .i64 (snd2 l k)) := (HBL.out.cell (by show b < _; omega)).trans (HC2.out k hlt)
          have hf := val_from HVl.out k hlt
          have hp : 0 ≤ fst2 l k * num ∧ fst2 l k * num ≤ 1000000000000 * 53 := ⟨Int.mul_nonneg hf.1 s3, Int.mul_le_mul hf.2 (by omega) s3 (by omega)⟩
          have hbs : b < wr.heap.size := by omega
          have hcase : (k = 0 ∧ scTo l num den k = []) ∨ ∃ j, k = j + 1 ∧ scTo l num den k = rsTo l num den j ++ [scAt l num den j] := by
            by_cases h0 : k = 0
            · subst h0; exact .inl ⟨rfl, scTo_zero _ _ _⟩
            · obtain ⟨j, rfl⟩ : ∃ j, k = j + 1 := ⟨k - 1, by omega⟩
              exact .inr ⟨j, rfl, scTo_form l num den j (by omega)⟩
          have HN1 := Lib.hid (scTo_form l num den k hlt)
          have hsl : (scTo l num den k).length ≤ k := by
            rcases hcase with ⟨_, h⟩ | ⟨j, h, h'⟩
            · rw [h]; simp
            · rw [h']; have := rsTo_len l num den j; simp; omega
          rcases hcase with ⟨h0, hs0⟩ | ⟨j, hj, hsj⟩
          · have HN : Hid (scTo l num den (k + 1) = [scAt l num den k]) := Lib.hid (by rw [HN1.out, h0]; rfl)
            have H0 := Lib.hid h0
            rw [hs0] at HOW ⊢
            clear hs0 hsl h0
            go_wp2
            go_quiet (fail)
            obtain ⟨i0, hi, hz0, hz1, hz2⟩ := info_parts infoB
            go_wp2_with (at_builtin; go_must (refine wpList_append_sl _ rfl _ _ 30 rfl w.heap.size 54 i0 _ 2 16 Try.underlying30 hi hz0 hz1 hz2 rfl (by decide) A1 c1 0 [] rfl (by exact ((HOW.out.alloc _).drewN _).alloc _) ⟨_, 0, none⟩ 1 1 [.int .i64 (fst2 l k * num / den), .int .i64 (snd2 l k)] rfl rfl ?c1 ?c2 ?c3 ?c4 ?c5 ?_))
            case c1 => exact cells_at _ _ [.int .i64 (fst2 l k * num / den), .int .i64 (snd2 l k)] _ (by simp)
            case c2 => exact flat_one [(fst2 l k * num / den, snd2 l k)]
            case c3 => unfold maxLen; omega
            case c4 => omega
            case c5 => simp; omega
            intro A2 c2 w2 hown2 hb2
            have HB3 : Hid (Below w.heap.size w w2) := Lib.hid (((below_drewN (HBL.out.alloc hsz _) _).alloc (by simp; omega) _).trans hb2)
            have HO3 := Lib.hid hown2
            clear hown2 hb2
            go_wp2
            go_roundw
            case rel => exact ⟨k + 1, A2, c2, by omega, by go_num, by rw [HN.out]; rfl, by rw [HN.out]; exact HO3.out, HB3.out⟩
            case measure => simp [intOf]; omega
          · have hjl : j + 1 < l.length := by omega
            have hsl2 := rsTo_len l num den j
            rw [hsj] at HOW ⊢
            clear hsj hsl
            obtain ⟨g, rfl, hg1, hg2, q1, q2, q3⟩ := HOW.out.form
            have HJ := Lib.hid hj
            have q1' : ∀ o, (wr.alloc o).cell? ⟨g, (rsTo l num den j).length * 2, none⟩ = some (.int .i64 (scAt l num den j).1) := fun o => (World.cell?_alloc_lt wr o ⟨g, _, none⟩ hg2).trans q1
            by_cases he : (scAt l num den k).1 = (scAt l num den j).1
            · have HN : Hid (scTo l num den (k + 1) = rsTo l num den j ++ [scAt l num den k]) := Lib.hid (by rw [hj] at he ⊢; exact scTo_same hjl he)
              have he' : ((scAt l num den j).1 == fst2 l k * num / den) = true := beq_iff_eq.2 he.symm
              clear he hj
              generalize rsTo l num den j = s at *
              generalize scAt l num den j = y at *
              have hw := IntWalk.i64_in (s.length : Int) (by omega)
              simp only [List.length_append, List.length_cons, List.length_nil, Nat.zero_add]
              go_wp2
              go_quiet (fail)
              clear hw
              go_wp2
              go_roundw
              case rel =>
                refine ⟨k + 1, some ⟨g, 0, none⟩, c1, by omega, by go_num, by rw [HN.out]; simp, ?_, ?_⟩
                · rw [HN.out]
                  exact ((HOW.out.alloc _).drewN _).put _ _
                · exact ((below_drewN (HBL.out.alloc hsz _) _).setCell hg1 _).setCell hg1 _
              case measure => simp [intOf]; omega
            · have HN : Hid (scTo l num den (k + 1) = (rsTo l num den j ++ [scAt l num den j]) ++ [scAt l num den k]) := Lib.hid (by rw [hj] at he ⊢; rw [scTo_other hjl he, scTo_form l num den j (by omega)])
              have he' : ((scAt l num den j).1 == fst2 l k * num / den) = false := beq_eq_false_iff_ne.2 (fun h => he h.symm)
              clear he hj
              generalize rsTo l num den j = s at *
              generalize scAt l num den j = y at *
              have hw := IntWalk.i64_in (s.length : Int) (by omega)
              simp only [List.length_append, List.length_cons, List.length_nil, Nat.zero_add]
              go_wp2
              go_quiet (fail)
              clear hw
              obtain ⟨i0, hi, hz0, hz1, hz2⟩ := info_parts infoB
              go_wp2_with (at_builtin; go_must (refine wpList_append_sl _ rfl _ _ 30 rfl w.heap.size 54 i0 _ 2 16 Try.underlying30 hi hz0 hz1 hz2 rfl (by decide) (some ⟨g, 0, none⟩) c1 (s.length + 1) (flat (s ++ [y])) rfl (by exact own_len (((HOW.out.alloc _).drewN _).alloc _)) ⟨_, 0, none⟩ 1 1 [.int .i64 (fst2 l k * num / den), .int .i64 (snd2 l k)] rfl rfl ?c1 ?c2 ?c3 ?c4 ?c5 ?_))
              case c1 => exact cells_at _ _ [.int .i64 (fst2 l k * num / den), .int .i64 (snd2 l k)] _ (by simp)
              case c2 => exact flat_one [(fst2 l k * num / den, snd2 l k)]
              case c3 => unfold maxLen; omega
              case c4 => omega
              case c5 => simp; omega
              intro A2 c2 w2 hown2 hb2
              have HB3 : Hid (Below w.heap.size w w2) := Lib.hid (((below_drewN (HBL.out.alloc hsz _) _).alloc (by simp; omega) _).trans hb2)
              have HO3 := Lib.hid hown2
              clear hown2 hb2
              go_wp2
              go_roundw
              case rel => exact ⟨k + 1, A2, c2, by omega, by go_num, by rw [HN.out]; simp, by rw [HN.out]; exact own_snoc HO3.out, HB3.out⟩
              case measure => simp [intOf]; omega
        · have hkl : k = l.length := by omega
          subst hkl
          have HS2 : Hid (scaleE l num den = 0 ∧ scaleL l num den = scTo l num den l.length) := Lib.hid (by rw [scTo_all]; exact HS.out)
          go_wp2
          go_ret2
          exact scale_yes HS2.out HBL.out HOW.out
    · have HS := Lib.hid (scale_range hV hs)
      clear hr hV
      go_enter Try.func47, Try.ntmps47
      go_wp2_with fail
      refine HC.out.mono ?_
      rintro e w1 ⟨rfl, hb1⟩
      have HB1 := Lib.hid hb1
      clear hb1
      rcases bool_cases (den < 1) with t1 | t1
      · go_wp2
        go_ret2
        exact scale_no 2 HS.out HB1.out
      · rcases bool_cases (53 < den) with t2 | t2
        · go_wp2
          go_ret2
          exact scale_no 2 HS.out HB1.out
        · rcases bool_cases (num < 0) with t3 | t3
          · go_wp2
            go_ret2
            exact scale_no 2 HS.out HB1.out
          · have t4 : decide (den < num) = true := by unfold scOk at hs; simp at t1 t2 t3; simp; omega
            go_wp2
            go_ret2
            exact scale_no 2 HS.out HB1.out
  · have HC := Lib.hid (valid_f A c B l w hr hB hl hV)
    have HS := Lib.hid (scale_bad (num := num) (den := den) hV)
    clear hr hV
    go_enter Try.func47, Try.ntmps47
    go_wp2_with fail
    refine HC.out.mono ?_
    rintro e w1 ⟨rfl, hb1⟩
    have HB1 := Lib.hid hb1
    clear hb1
    go_wp2
    go_ret2
    exact scale_no 1 HS.out HB1.out

set_option maxHeartbeats 1600000 in
theorem refScale_any (num den : Int) : Calls Try.prog 49 #[.slice A l.length c, .int .i64 num, .int .i64 den] w (ScalePost l num den w) := by
  by_cases hV : Val l
  · have HC := Lib.hid (refValid_t A c B l w hr hB hl hV)
    by_cases hs : scOk num den
    · have HS := Lib.hid (scale_ok hV hs)
      obtain ⟨b, off, rfl, hb, hc1, hc2⟩ := hr.all (by have := hV.1; omega)
      have HC1 := Lib.hid hc1
      have HC2 := Lib.hid hc2
      have HVl := Lib.hid hV
      have hl24 : l.length ≤ 24 := hV.2.1
      obtain ⟨s1, s2, s3, s4⟩ := hs
      have t1 : decide (den < 1) = false := by simp; omega
      have t2 : decide (53 < den) = false := by simp; omega
      have t3 : decide (num < 0) = false := by simp; omega
      have t4 : decide (den < num) = false := by simp; omega
      clear hr hc1 hc2 hV
      go_enter Try.func49, Try.ntmps49
      go_wp2_with fail
      refine HC.out.mono ?_
      rintro e w1 ⟨rfl, hb1⟩
      have HB1 := Lib.hid hb1
      clear hb1
      go_wp2
      go_loopw [8, 9] (fun v i wr => ∃ (k : Nat) (A1 : Option Addr) (c1 : Nat), k ≤ l.length ∧ i = .int .i64 k ∧ v = .slice A1 (rsTo l num den k).length c1 ∧ OwnP wr w.heap.size A1 c1 (rsTo l num den k) ∧ Below w.heap.size w wr) (fun _ i _ => l.length - (intOf i).toNat)
      case atStart => exact ⟨0, none, 0, Nat.zero_le _, rfl, rfl, OwnP.nil _ _, HB1.out⟩
      case round =>
        obtain ⟨k, A1, c1, hk, rfl, rfl, hown, hbl⟩ := hrel
        have HBL := Lib.hid hbl
        have HOW := Lib.hid hown
        clear hbl hown
        have hsz := HBL.out.size
        by_cases hlt : k < l.length
        · have e1 : wr.cell? ⟨b, off + k * 2, none⟩ = some (.int .i64 (fst2 l k)) := (HBL.out.cell (by show b < _; omega)).trans (HC1.out k hlt)
          have e2 : wr.cell? ⟨b, off + k * 2 + 1, none⟩ = some (.int .i64 (snd2 l k)) := (HBL.out.cell (by show b < _; omega)).trans (HC2.out k hlt)
          have hf := val_from HVl.out k hlt
          have hp : 0 ≤ fst2 l k * num ∧ fst2 l k * num ≤ 1000000000000 * 53 := ⟨Int.mul_nonneg hf.1 s3, Int.mul_le_mul hf.2 (by omega) s3 (by omega)⟩
          have hsl := rsTo_len l num den k
          obtain ⟨i0, hi, hz0, hz1, hz2⟩ := info_parts infoB
          by_cases hk1 : k + 1 < l.length
          · have e3 : wr.cell? ⟨b, off + (k + 1) * 2, none⟩ = some (.int .i64 (fst2 l (k + 1))) := (HBL.out.cell (by show b < _; omega)).trans (HC1.out (k + 1) hk1)
            have hf1 := val_from HVl.out (k + 1) hk1
            have hp1 : 0 ≤ fst2 l (k + 1) * num ∧ fst2 l (k + 1) * num ≤ 1000000000000 * 53 := ⟨Int.mul_nonneg hf1.1 s3, Int.mul_le_mul hf1.2 (by omega) s3 (by omega)⟩
            have hd : decide (k + 1 < l.length) = true := by simpa using hk1
            have hd' : decide ((k : Int) + 1 < (l.length : Int)) = true := by simp; omega
            by_cases he : fst2 l (k + 1) * num / den = fst2 l k * num / den
            · have HN := Lib.hid (rsTo_skip hk1 he)
              have he' : (fst2 l (k + 1) * num / den == fst2 l k * num / den) = true := beq_iff_eq.2 he
              clear he
              generalize rsTo l num den k = s at *
              go_wp2
              go_roundw
              case rel => exact ⟨k + 1, A1, c1, by omega, by go_num, by rw [HN.out], by rw [HN.out]; exact HOW.out, HBL.out⟩
              case measure => simp [intOf]; omega
            · have HN := Lib.hid (rsTo_take (k := k) (fun h => he h.2))
              have he' : (fst2 l (k + 1) * num / den == fst2 l k * num / den) = false := beq_eq_false_iff_ne.2 he
              clear he
              generalize rsTo l num den k = s at *
              go_wp2_with (at_builtin; go_must (refine wpList_append_sl _ rfl _ _ 30 rfl w.heap.size 54 i0 _ 2 16 Try.underlying30 hi hz0 hz1 hz2 rfl (by decide) A1 c1 s.length (flat s) rfl (by exact HOW.out.alloc _) ⟨_, 0, none⟩ 1 1 [.int .i64 (fst2 l k * num / den), .int .i64 (snd2 l k)] rfl rfl ?c1 ?c2 ?c3 ?c4 ?c5 ?_))
              case c1 => exact cells_at _ _ [.int .i64 (fst2 l k * num / den), .int .i64 (snd2 l k)] _ (by simp)
              case c2 => exact flat_one [(fst2 l k * num / den, snd2 l k)]
              case c3 => unfold maxLen; omega
              case c4 => omega
              case c5 => simp; omega
              intro A2 c2 w2 hown2 hb2
              have HB3 : Hid (Below w.heap.size w w2) := Lib.hid ((HBL.out.alloc hsz _).trans hb2)
              have HO3 := Lib.hid hown2
              clear hown2 hb2
              go_wp2
              go_roundw
              case rel => exact ⟨k + 1, A2, c2, by omega, by go_num, by rw [HN.out]; simp, by rw [HN.out]; exact own_snoc1 HO3.out, HB3.out⟩
              case measure => simp [intOf]; omega
          · have HN := Lib.hid (rsTo_take (num := num) (den := den) (k := k) (fun h => hk1 h.1))
            have hd : decide (k + 1 < l.length) = false := by simpa using hk1
            have hd' : decide ((k : Int) + 1 < (l.length : Int)) = false := by simp; omega
            generalize rsTo l num den k = s at *
            go_wp2_with (at_builtin; go_must (refine wpList_append_sl _ rfl _ _ 30 rfl w.heap.size 54 i0 _ 2 16 Try.underlying30 hi hz0 hz1 hz2 rfl (by decide) A1 c1 s.length (flat s) rfl (by exact HOW.out.alloc _) ⟨_, 0, none⟩ 1 1 [.int .i64 (fst2 l k * num / den), .int .i64 (snd2 l k)] rfl rfl ?c1 ?c2 ?c3 ?c4 ?c5 ?_))
            case c1 => exact cells_at _ _ [.int .i64 (fst2 l k * num / den), .int .i64 (snd2 l k)] _ (by simp)
            case c2 => exact flat_one [(fst2 l k * num / den, snd2 l k)]
            case c3 => unfold maxLen; omega
            case c4 => omega
            case c5 => simp; omega
            intro A2 c2 w2 hown2 hb2
            have HB3 : Hid (Below w.heap.size w w2) := Lib.hid ((HBL.out.alloc hsz _).trans hb2)
            have HO3 := Lib.hid hown2
            clear hown2 hb2
            go_wp2
            go_roundw
            case rel => exact ⟨k + 1, A2, c2, by omega, by go_num, by rw [HN.out]; simp, by rw [HN.out]; exact own_snoc1 HO3.out, HB3.out⟩
            case measure => simp [intOf]; omega
        · have hkl : k = l.length := by omega
          subst hkl
          have HS2 : Hid (scaleE l num den = 0 ∧ scaleL l num den = rsTo l num den l.length) := Lib.hid (by rw [rsTo_all _ _ _ (by have := HVl.out.1; omega)]; exact HS.out)
          go_wp2
          go_ret2
          exact scale_yes HS2.out HBL.out HOW.out
    · have HS := Lib.hid (scale_range hV hs)
      clear hr hV
      go_enter Try.func49, Try.ntmps49
      go_wp2_with fail
      refine HC.out.mono ?_
      rintro e w1 ⟨rfl, hb1⟩
      have HB1 := Lib.hid hb1
      clear hb1
      rcases bool_cases (den < 1) with t1 | t1
      · go_wp2
        go_ret2
        exact scale_no 2 HS.out HB1.out
      · rcases bool_cases (53 < den) with t2 | t2
        · go_wp2
          go_ret2
          exact scale_no 2 HS.out HB1.out
        · rcases bool_cases (num < 0) with t3 | t3
          · go_wp2
            go_ret2
            exact scale_no 2 HS.out HB1.out
          · have t4 : decide (den < num) = true := by unfold scOk at hs; simp at t1 t2 t3; simp; omega
            go_wp2
            go_ret2
            exact scale_no 2 HS.out HB1.out
  · have HC := Lib.hid (refValid_f A c B l w hr hB hl hV)
    have HS := Lib.hid (scale_bad (num := num) (den := den) hV)
    clear hr hV
    go_enter Try.func49, Try.ntmps49
    go_wp2_with fail
    refine HC.out.mono ?_
    rintro e w1 ⟨rfl, hb1⟩
    have HB1 := Lib.hid hb1
    clear hb1
    go_wp2
    go_ret2
    exact scale_no 1 HS.out HB1.out
end
end Go.Proofs.Ytcincmlpegnaiaa
