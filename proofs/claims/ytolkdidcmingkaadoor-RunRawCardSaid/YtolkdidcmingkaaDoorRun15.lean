/-
  Chapter 40: the contract of run.Permitted.
-/
import Derived.Test.YtolkdidcmingkaaDoorRun12
namespace Go.Proofs.YtolkdidcmingkaaDoor
open Go.RowKit
set_option linter.unusedVariables false
set_option linter.unusedSimpArgs false

/-- the kinds among the first j transitions that lead from a state -/
def pmTo (s : Int) : Nat → List Int
  | 0 => []
  | j + 1 => pmTo s j ++ (if tB TR j = s then [tA TR j] else [])
theorem pmTo_yes {s : Int} {j : Nat} (h : tB TR j = s) : pmTo s (j + 1) = pmTo s j ++ [tA TR j] := by rw [pmTo, if_pos h]
theorem pmTo_no {s : Int} {j : Nat} (h : ¬ tB TR j = s) : pmTo s (j + 1) = pmTo s j := by rw [pmTo, if_neg h, List.append_nil]
theorem pmTo_len (s : Int) : ∀ j, (pmTo s j).length ≤ j
  | 0 => Nat.le_refl _
  | j + 1 => by
    have := pmTo_len s j
    rw [pmTo, List.length_append]
    split
    · simp; omega
    · simp; omega
theorem pm_mem (s k : Int) : k ∈ pmTo s 10 ↔ mayB s k = true := by
  have h : ∀ j, k ∈ pmTo s j ↔ ∃ i, i < j ∧ tB TR i = s ∧ tA TR i = k := by
    intro j
    induction j with
    | zero => simp [pmTo]
    | succ j ih =>
      rw [pmTo, List.mem_append, ih]
      constructor
      · rintro (⟨i, hi, h1, h2⟩ | h)
        · exact ⟨i, by omega, h1, h2⟩
        · split at h
          · simp at h; exact ⟨j, by omega, by assumption, h.symm⟩
          · simp at h
      · rintro ⟨i, hi, h1, h2⟩
        by_cases hij : i < j
        · exact .inl ⟨i, hij, h1, h2⟩
        · obtain rfl : i = j := by omega
          exact .inr (by rw [if_pos h1]; simp [h2])
  rw [h]
  constructor
  · rintro ⟨i, hi, h1, h2⟩
    have : i = 0 ∨ i = 1 ∨ i = 2 ∨ i = 3 ∨ i = 4 ∨ i = 5 ∨ i = 6 ∨ i = 7 ∨ i = 8 ∨ i = 9 := by omega
    rcases this with rfl | rfl | rfl | rfl | rfl | rfl | rfl | rfl | rfl | rfl <;> (subst h1 h2; rfl)
  · intro hm
    unfold mayB at hm
    simp only [Bool.or_eq_true, Bool.and_eq_true, beq_iff_eq] at hm
    rcases hm with ((((⟨rfl, rfl | rfl⟩ | ⟨rfl, rfl | rfl⟩) | ⟨rfl, rfl | rfl⟩) | ⟨rfl, rfl⟩) | ⟨rfl, rfl⟩) | ⟨rfl, rfl | rfl⟩
    · exact ⟨0, by omega, rfl, rfl⟩
    · exact ⟨1, by omega, rfl, rfl⟩
    · exact ⟨2, by omega, rfl, rfl⟩
    · exact ⟨3, by omega, rfl, rfl⟩
    · exact ⟨8, by omega, rfl, rfl⟩
    · exact ⟨9, by omega, rfl, rfl⟩
    · exact ⟨4, by omega, rfl, rfl⟩
    · exact ⟨5, by omega, rfl, rfl⟩
    · exact ⟨6, by omega, rfl, rfl⟩
    · exact ⟨7, by omega, rfl, rfl⟩
noncomputable def permL (s : Int) (E : List Int) (c : T3) : List Int := if validB s E c = true then pmTo s 10 else []
/-- a list of numbers in memory of its own -/
def NewL (K : List Int) (w : World) (e : Ending) (w' : World) : Prop := ∃ A n, e = .returned (.slice A K.length n) ∧ Below w.heap.size w w' ∧ RdI w' w'.heap.size A K
def OwnI (w : World) (base : Nat) (A : Option Addr) (c : Nat) (l : List Int) : Prop := w.ownsRow base 3 1 (.slice A l.length c) l.length (l.map (Value.int .i64))
theorem ownI_snoc {w : World} {base : Nat} {A : Option Addr} {c : Nat} {l : List Int} {x : Int} (h : w.ownsRow base 3 1 (.slice A (l.length + 1) c) (l.length + 1) (l.map (Value.int .i64) ++ [.int .i64 x])) : OwnI w base A c (l ++ [x]) := by
  unfold OwnI
  simpa using h
theorem OwnI.calc_ {w w' : World} {base c : Nat} {A : Option Addr} {l : List Int} (h : OwnI w base A c l) (hb : Below w.heap.size w w') : OwnI w' base A c l :=
  World.ownsRow.kept h (Only.of_below hb w.heap.size) (.inr (fun e => by have := (World.ownsRow.lt h _ e).2; omega))
theorem RB.alloc {w W : World} {t : TypeId} {cs : Array Value} (h : RB w t cs W) (o : Obj) : RB w t cs (W.alloc o) := h.calc_ ((Below.refl _ _).alloc (Nat.le_refl _) o)
theorem RB.app {w W w3 : World} {t : TypeId} {cs : Array Value} {o o2 : Obj} (h : RB w t cs W) (hb : Below (w.heap.size + 1) ((W.alloc o).alloc o2) w3) : RB w t cs w3 :=
  ⟨((h.alloc o).alloc o2).below.trans (hb.mono (by omega)), ((h.alloc o).alloc o2).box.below hb (by omega)⟩

set_option maxHeartbeats 1600000 in
theorem permitted_any (s : Int) (A : Option Addr) (c : Nat) (E : List Int) (d0 d1 d2 : Int) (w : World) (hT : Tab w) (hr : RdI w w.heap.size A E) (hl : E.length ≤ 9223372036854775807) :
    Calls Tryd.prog 19 #[.agg #[.int .i64 s, .slice A E.length c, .int .i64 d0, .int .i64 d1, .int .i64 d2]] w (NewL (permL s E (d0, d1, d2)) w) := by
  have HV : Hid (∀ W, RB w 27 #[.int .i64 s, .slice A E.length c, .int .i64 d0, .int .i64 d1, .int .i64 d2] W → Calls Tryd.prog 11 #[.agg #[.int .i64 s, .slice A E.length c, .int .i64 d0, .int .i64 d1, .int .i64 d2]] W (RetB (validB s E (d0, d1, d2)) W)) := Lib.hid (fun W h => rvalid_any s A c w.heap.size E d0 d1 d2 W (hr.below h.below) h.below.size hl)
  have HRB := Lib.hid (RB.start w 27 #[.int .i64 s, .slice A E.length c, .int .i64 d0, .int .i64 d1, .int .i64 d2])
  have HT := Lib.hid hT
  obtain ⟨i0, hi, hz0, hz1, hz2⟩ := info_parts infoI
  clear hr hT
  cases hv : validB s E (d0, d1, d2)
  · have HN : Hid (permL s E (d0, d1, d2) = []) := Lib.hid (by unfold permL; rw [hv]; rfl)
    rw [hv] at HV
    clear hv
    go_enter Tryd.func19, Tryd.ntmps19
    go_wp2_with fail
    refine (HV.out _ HRB.out).mono ?_
    rintro e w1 ⟨rfl, hb⟩
    have HRB := Lib.hid (HRB.out.calc_ hb)
    clear hb
    go_wp2
    go_ret
    exact ⟨none, 0, by rw [HN.out]; rfl, HRB.out.below, by rw [HN.out]; exact Rd.none_⟩
  · have HN : Hid (permL s E (d0, d1, d2) = pmTo s 10) := Lib.hid (by unfold permL; rw [if_pos hv])
    rw [hv] at HV
    clear hv
    go_enter Tryd.func19, Tryd.ntmps19
    go_wp2_with fail
    refine (HV.out _ HRB.out).mono ?_
    rintro e w1 ⟨rfl, hb⟩
    have HRB := Lib.hid (HRB.out.calc_ hb)
    obtain ⟨tt, fr, hg⟩ := HT.out.calc_ HRB.out.below
    clear hb HT
    go_wp2_with (refine wpList_load_row rfl 62 _ rfl 0 rfl tt _ fr _ hg Tryd.underlying62 rfl (by kernel_rfl) ?_)
    generalize htv : tabV = TV at *
    have HTV := Lib.hid htv
    clear htv hg
    go_loopw [3, 10] (fun v i wr => ∃ (j : Nat) (A1 : Option Addr) (c1 : Nat), j ≤ 10 ∧ i = .int .i64 j ∧ v = .slice A1 (pmTo s j).length c1 ∧ OwnI wr (w.heap.size + 1) A1 c1 (pmTo s j) ∧ RB w 27 #[.int .i64 s, .slice A E.length c, .int .i64 d0, .int .i64 d1, .int .i64 d2] wr) (fun _ i _ => 10 - (intOf i).toNat)
    case atStart => exact ⟨0, none, 0, Nat.zero_le _, rfl, rfl, World.ownsRow_nil _ _ _ _, HRB.out⟩
    case round =>
      obtain ⟨j, A1, c1, hj, rfl, rfl, hown, hrb⟩ := hrel
      have HOW := Lib.hid hown
      have HRB := Lib.hid hrb
      have hbs := hrb.box.lt
      have hlen := pmTo_len s j
      clear hown hrb
      by_cases hlt : j < 10
      · have hix := tr_index j hlt
        rw [HTV.out] at hix
        have HY : Hid (tB TR j = s → pmTo s (j + 1) = pmTo s j ++ [tA TR j]) := Lib.hid pmTo_yes
        have HNO : Hid (¬ tB TR j = s → pmTo s (j + 1) = pmTo s j) := Lib.hid pmTo_no
        have HOA : Hid (∀ o, OwnI (wr.alloc o) (w.heap.size + 1) A1 c1 (pmTo s j)) := Lib.hid (fun o => HOW.out.calc_ ((Below.refl _ _).alloc (Nat.le_refl _) o))
        have x0 := HRB.out.box.cell 0
        simp at x0
        generalize tA TR j = a at *
        generalize tB TR j = b at *
        generalize tC TR j = d at *
        rcases (show (b == s) = true ∨ (b == s) = false by cases b == s <;> simp) with t2 | t2
        · have HN' := Lib.hid (HY.out (by simpa using t2))
          clear HY HNO
          go_wp2_with (at_builtin; go_must (refine wpList_append_sk _ rfl _ _ 23 rfl (w.heap.size + 1) 3 i0 _ 1 8 Tryd.underlying23 hi hz0 hz1 hz2 rfl (by decide) A1 c1 _ ((pmTo s j).map (Value.int .i64)) rfl (by exact World.ownsRow.alloc (HOA.out _) _) ⟨_, 0, none⟩ 1 1 [.int .i64 a] rfl rfl ?c1 ?c2 ?c3 ?c4 ?c5 ?_))
          case c1 => exact cells_at _ _ [.int .i64 a] _ (by simp)
          case c2 => exact ints_one [a]
          case c3 => unfold maxLen; omega
          case c4 => omega
          case c5 => simp; omega
          intro A3 c3 w3 hown3 hb3 _
          have HO3 := Lib.hid (ownI_snoc hown3)
          have HB4 := Lib.hid (HRB.out.app hb3)
          clear hown3 hb3
          go_wp2
          go_roundw
          case rel => exact ⟨j + 1, A3, c3, by omega, by go_num, by rw [HN'.out]; simp, by rw [HN'.out]; exact HO3.out, HB4.out⟩
          case measure => simp [intOf]; omega
        · have HN' := Lib.hid (HNO.out (by simpa using t2))
          clear HY HNO
          go_wp2
          go_roundw
          case rel => exact ⟨j + 1, A1, c1, by omega, by go_num, by rw [HN'.out], by rw [HN'.out]; exact HOA.out _, HRB.out.alloc _⟩
          case measure => simp [intOf]; omega
      · obtain rfl : j = 10 := by omega
        go_wp2
        go_ret
        exact ⟨A1, c1, by rw [HN.out]; rfl, HRB.out.below, by rw [HN.out]; exact own_rdI HOW.out⟩
end Go.Proofs.YtolkdidcmingkaaDoor
