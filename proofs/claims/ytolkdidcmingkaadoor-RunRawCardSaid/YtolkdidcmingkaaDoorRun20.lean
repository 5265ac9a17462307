/-
  Chapter 40: the reference's Permitted and Replay, and the law's ints.
-/
import Derived.Test.YtolkdidcmingkaaDoorRun15
import Derived.Test.YtolkdidcmingkaaDoorRun19m
namespace Go.Proofs.YtolkdidcmingkaaDoor
open Go.RowKit
set_option linter.unusedVariables false
set_option linter.unusedSimpArgs false

def pqTo (s : Int) : Nat → List Int
  | 0 => []
  | j + 1 => pqTo s j ++ (if mayB s j = true then [(j : Int)] else [])
theorem pqTo_yes {s : Int} {j : Nat} (h : mayB s j = true) : pqTo s (j + 1) = pqTo s j ++ [(j : Int)] := by rw [pqTo, if_pos h]
theorem pqTo_no {s : Int} {j : Nat} (h : mayB s j = false) : pqTo s (j + 1) = pqTo s j := by rw [pqTo, h]; simp
theorem pqTo_len (s : Int) : ∀ j, (pqTo s j).length ≤ j
  | 0 => Nat.le_refl _
  | j + 1 => by
    have := pqTo_len s j
    rw [pqTo, List.length_append]
    split
    · simp; omega
    · simp; omega
theorem pq_one (s : Int) : pqTo s 1 = [] := by
  have : mayB s ((0 : Nat) : Int) = false := by simp [mayB]
  rw [pqTo_no this]; rfl
theorem pq_pm (s : Int) : pqTo s 7 = pmTo s 10 := by
  by_cases h1 : s = 1
  · subst h1; decide
  by_cases h2 : s = 2
  · subst h2; decide
  by_cases h3 : s = 3
  · subst h3; decide
  by_cases h4 : s = 4
  · subst h4; decide
  by_cases h5 : s = 5
  · subst h5; decide
  have hq : ∀ j : Nat, mayB s (j : Int) = false := fun j => by simp [mayB, h1, h2, h3, h4, h5]
  have hp : ∀ j : Nat, j < 10 → ¬ tB TR j = s := fun j hj e => by
    have : j = 0 ∨ j = 1 ∨ j = 2 ∨ j = 3 ∨ j = 4 ∨ j = 5 ∨ j = 6 ∨ j = 7 ∨ j = 8 ∨ j = 9 := by omega
    rcases this with rfl | rfl | rfl | rfl | rfl | rfl | rfl | rfl | rfl | rfl
    · exact h1 e.symm
    · exact h2 e.symm
    · exact h2 e.symm
    · exact h3 e.symm
    · exact h3 e.symm
    · exact h4 e.symm
    · exact h4 e.symm
    · exact h5 e.symm
    · exact h2 e.symm
    · exact h3 e.symm
  have e1 : ∀ j, pqTo s j = [] := fun j => by
    induction j with
    | zero => rfl
    | succ j ih => rw [pqTo_no (hq j), ih]
  have e2 : ∀ j, j ≤ 10 → pmTo s j = [] := fun j => by
    induction j with
    | zero => intro _; rfl
    | succ j ih => intro h; rw [pmTo_no (hp j (by omega)), ih (by omega)]
  rw [e1, e2 10 (Nat.le_refl _)]

theorem RB.app1 {w W w3 : World} {t : TypeId} {cs : Array Value} {o : Obj} (h : RB w t cs W) (hb : Below (w.heap.size + 1) (W.alloc o) w3) : RB w t cs w3 :=
  ⟨(h.alloc o).below.trans (hb.mono (by omega)), (h.alloc o).box.below hb (by omega)⟩
set_option maxHeartbeats 1600000 in
theorem rpermitted_any (s : Int) (A : Option Addr) (c : Nat) (E : List Int) (d0 d1 d2 : Int) (w : World) (hr : RdI w w.heap.size A E) (hl : E.length ≤ 100000) :
    Calls Tryd.prog 20 #[.agg #[.int .i64 s, .slice A E.length c, .int .i64 d0, .int .i64 d1, .int .i64 d2]] w (NewL (permL s E (d0, d1, d2)) w) := by
  have HV : Hid (∀ W, RB w 27 #[.int .i64 s, .slice A E.length c, .int .i64 d0, .int .i64 d1, .int .i64 d2] W → Calls Tryd.prog 22 #[.agg #[.int .i64 s, .slice A E.length c, .int .i64 d0, .int .i64 d1, .int .i64 d2]] W (RetB (validB s E (d0, d1, d2)) W)) := Lib.hid (fun W h => refValid_any s A c w.heap.size E d0 d1 d2 W (hr.below h.below) h.below.size (by omega))
  have HM : Hid (∀ (k : Int) W, Calls Tryd.prog 32 #[.int .i64 s, .int .i64 k] W (RetB0 (mayB s k) W)) := Lib.hid (fun k W => may_any s k W)
  have HRB := Lib.hid (RB.start w 27 #[.int .i64 s, .slice A E.length c, .int .i64 d0, .int .i64 d1, .int .i64 d2])
  obtain ⟨i0, hi, hz0, hz1, hz2⟩ := info_parts infoI
  clear hr
  cases hv : validB s E (d0, d1, d2)
  · have HN : Hid (permL s E (d0, d1, d2) = []) := Lib.hid (by unfold permL; rw [hv]; rfl)
    rw [hv] at HV
    clear hv
    go_enter Tryd.func20, Tryd.ntmps20
    go_wp2_with fail
    refine (HV.out _ HRB.out).mono ?_
    rintro e w1 ⟨rfl, hb⟩
    have HRB := Lib.hid (HRB.out.calc_ hb)
    clear hb
    go_wp2
    go_ret
    exact ⟨none, 0, by rw [HN.out]; rfl, HRB.out.below, by rw [HN.out]; exact Rd.none_⟩
  · have HN : Hid (permL s E (d0, d1, d2) = pqTo s 7) := Lib.hid (by unfold permL; rw [if_pos hv, pq_pm])
    rw [hv] at HV
    clear hv
    go_enter Tryd.func20, Tryd.ntmps20
    go_wp2_with fail
    refine (HV.out _ HRB.out).mono ?_
    rintro e w1 ⟨rfl, hb⟩
    have HRB := Lib.hid (HRB.out.calc_ hb)
    clear hb
    go_wp2
    go_loopw [3, 4] (fun v i wr => ∃ (j : Nat) (A1 : Option Addr) (c1 : Nat), 1 ≤ j ∧ j ≤ 7 ∧ i = .int .i64 j ∧ v = .slice A1 (pqTo s j).length c1 ∧ OwnI wr (w.heap.size + 1) A1 c1 (pqTo s j) ∧ RB w 27 #[.int .i64 s, .slice A E.length c, .int .i64 d0, .int .i64 d1, .int .i64 d2] wr) (fun _ i _ => 7 - (intOf i).toNat)
    case atStart => exact ⟨1, none, 0, by omega, by omega, rfl, by rw [pq_one]; rfl, by rw [pq_one]; exact World.ownsRow_nil _ _ _ _, HRB.out⟩
    case round =>
      obtain ⟨j, A1, c1, hj0, hj, rfl, rfl, hown, hrb⟩ := hrel
      have HOW := Lib.hid hown
      have HRB := Lib.hid hrb
      have hbs := hrb.box.lt
      have hlen := pqTo_len s j
      clear hown hrb
      by_cases hlt : j < 7
      · have h6 : (j : Int) ≤ 6 := by omega
        have x0 := HRB.out.box.cell 0
        simp at x0
        have HMJ := Lib.hid (HM.out (j : Int))
        have HY : Hid (mayB s (j : Int) = true → pqTo s (j + 1) = pqTo s j ++ [(j : Int)]) := Lib.hid pqTo_yes
        have HNO : Hid (mayB s (j : Int) = false → pqTo s (j + 1) = pqTo s j) := Lib.hid pqTo_no
        generalize mayB s (j : Int) = mb at *
        cases mb
        · have HN' := Lib.hid (HNO.out rfl)
          clear HY HNO
          go_wp2_with fail
          refine (HMJ.out _).mono ?_
          rintro e w3 ⟨rfl, rfl⟩
          go_wp2
          go_roundw
          case rel => exact ⟨j + 1, A1, c1, by omega, by omega, by go_num, by rw [HN'.out], by rw [HN'.out]; exact HOW.out, HRB.out⟩
          case measure => simp [intOf]; omega
        · have HN' := Lib.hid (HY.out rfl)
          clear HY HNO
          go_wp2_with fail
          refine (HMJ.out _).mono ?_
          rintro e w3 ⟨rfl, rfl⟩
          go_wp2_with (at_builtin; go_must (refine wpList_append_sk _ rfl _ _ 23 rfl (w.heap.size + 1) 3 i0 _ 1 8 Tryd.underlying23 hi hz0 hz1 hz2 rfl (by decide) A1 c1 _ ((pqTo s j).map (Value.int .i64)) rfl (by exact World.ownsRow.alloc HOW.out _) ⟨_, 0, none⟩ 1 1 [.int .i64 (j : Int)] rfl rfl ?c1 ?c2 ?c3 ?c4 ?c5 ?_))
          case c1 => exact cells_at _ _ [.int .i64 (j : Int)] _ (by simp)
          case c2 => exact ints_one [(j : Int)]
          case c3 => unfold maxLen; omega
          case c4 => omega
          case c5 => simp; omega
          intro A3 c3 w3 hown3 hb3 _
          have HO3 := Lib.hid (ownI_snoc hown3)
          have HB4 := Lib.hid (RB.app1 HRB.out hb3)
          clear hown3 hb3
          go_wp2
          go_roundw
          case rel => exact ⟨j + 1, A3, c3, by omega, by omega, by go_num, by rw [HN'.out]; simp, by rw [HN'.out]; exact HO3.out, HB4.out⟩
          case measure => simp [intOf]; omega
      · obtain rfl : j = 7 := by omega
        go_wp2
        go_ret
        exact ⟨A1, c1, by rw [HN.out]; rfl, HRB.out.below, by rw [HN.out]; exact own_rdI HOW.out⟩

set_option maxHeartbeats 800000 in
theorem ints_eq (E : List Int) (A A' : Option Addr) (n n' : Nat) (w : World) (hr : RdI w w.heap.size A E) (hr' : RdI w w.heap.size A' E) (hl : E.length ≤ 9223372036854775807) :
    Calls Tryd.prog 18 #[.slice A E.length n, .slice A' E.length n'] w (RetB true w) := by
  have HR := Lib.hid hr
  have HR' := Lib.hid hr'
  have d3 : ((E.length : Int) != (E.length : Int)) = false := by simp
  have HA : Hid (∀ m, Below w.heap.size w (w.drewN m)) := Lib.hid (fun m => below_drewN (Below.refl _ _) m)
  clear hr hr'
  go_enter Tryd.func18, Tryd.ntmps18
  go_wp2
  go_loopw [5] (fun i wr => ∃ k : Nat, k ≤ E.length ∧ i = .int .i64 k ∧ ∃ m, wr = w.drewN m) (fun i _ => E.length - (intOf i).toNat)
  case atStart => exact ⟨0, Nat.zero_le _, rfl, 0, rfl⟩
  case round =>
    obtain ⟨k, hk, rfl, m, rfl⟩ := hrel
    by_cases hlt : k < E.length
    · obtain ⟨b, off, rfl, hb, e1⟩ := HR.out.at_ hlt
      obtain ⟨b', off', rfl, hb', e2⟩ := HR'.out.at_ hlt
      have e3 : (at1 E k != at1 E k) = false := by simp
      go_wp2
      go_quiet (fail)
      go_wp2
      go_roundw
      case rel => exact ⟨k + 1, by omega, by go_num, _, rfl⟩
      case measure => simp [intOf]; omega
    · go_wp2
      go_ret
      exact ⟨rfl, HA.out _⟩

theorem LS.rstep_ {X : World → Prop} {hi : Nat} {w W : World} {rb n B : Nat} {r : RP} {A Ad : Option Addr} {L : List CV} (hX : Stable X rb hi) (h : LS X hi w rb r A n B Ad L W) (i : Nat) (hi' : i < L.length) :
    Calls Tryd.prog 17 #[.agg #[.int .i64 r.s, .slice A r.E.length n, .int .i64 r.c.1, .int .i64 r.c.2.1, .int .i64 r.c.2.2], .agg #[.int .i64 (cAt L i).k, .slice (cAt L i).A (cAt L i).F.length (cAt L i).n, .int .i64 (cAt L i).c.1, .int .i64 (cAt L i).c.2.1, .int .i64 (cAt L i).c.2.2]] W (StPost X hi w rb r A n B Ad L (cAt L i) W) := by
  have hx := h.st.cmds.2 (cAt L i) (cAt_mem L i hi')
  refine (rstep_any r.s A n r.E r.c.1 r.c.2.1 r.c.2.2 (cAt L i).k (cAt L i).A (cAt L i).n (cAt L i).F (cAt L i).c.1 (cAt L i).c.2.1 (cAt L i).c.2.2 W h.st.rd h.st.len (Rd.more hx.1 h.st.blt) hx.2).mono ?_
  intro e w' hsp
  obtain ⟨A', n', h1, h2, h3, h4⟩ := StepPost.open_ (r := r) (x := cAt L i) hsp
  exact ⟨A', n', h1, h2, h3, h4, stL_len _ _ h.st.len (h.st.cmds.2 _ (cAt_mem L i hi')).2, h.calc_ hX h2⟩
end Go.Proofs.YtolkdidcmingkaaDoor
