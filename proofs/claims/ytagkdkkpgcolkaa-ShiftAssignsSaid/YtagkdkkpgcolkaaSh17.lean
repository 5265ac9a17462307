/-
  Chapter 10: made plans: Tape.Plan and spoil. The memory is that of the given program; no conditions.
-/
import Derived.Test.YtagkdkkpgcolkaaSh24
import Derived.Test.YtagkdkkpgcolkaaZoneGen
namespace Go.Proofs.Ytagkdkkpgcolkaa
open Go.RowKit
set_option linter.unusedVariables false
set_option linter.unusedSimpArgs false
theorem infoSh : (Try.prog.info? 42).map (fun i => (i.zero, i.size, i.bytes)) = some (some (.agg #[.int .i64 0, .int .i64 0, .int .i64 0]), 3, 24) := by kernel_rfl
theorem undSh : Try.prog.underlying 26 = some (.slice 42) := by kernel_rfl
theorem flat3_app (l r : List T3) : flat3 (l ++ r) = flat3 l ++ flat3 r := by simp [flat3]
theorem flat3_set (l : List T3) (x : T3) : ∀ i, i < l.length → (((flat3 l).set (i * 3) (.int .i64 x.1)).set (i * 3 + 1) (.int .i64 x.2.1)).set (i * 3 + 2) (.int .i64 x.2.2) = flat3 (l.set i x) := by
  induction l with
  | nil => intro i h; simp at h
  | cons a t ih =>
    intro i h
    rw [flat3_cons]
    cases i with
    | zero => simp [flat3_cons]
    | succ i =>
      have h1 := ih i (by simpa using h)
      have e1 : (i + 1) * 3 = i * 3 + 1 + 1 + 1 := by omega
      rw [e1, show i * 3 + 1 + 1 + 1 + 1 = (i * 3 + 1) + 1 + 1 + 1 by omega, show i * 3 + 1 + 1 + 1 + 2 = (i * 3 + 2) + 1 + 1 + 1 by omega]
      simp only [List.set_cons_succ, h1]
      simp [flat3_cons]
/-- a plan that is made on a tape: the tape at block g, the plan in a row of its own, younger than w -/
structure PR (w : World) (g : Nat) (M : Int) (A : Option Addr) (c : Nat) (l : List T3) (W : World) : Prop where
  deck : Deck W g M
  only : Only g w W
  own : W.ownsRow w.heap.size 42 3 (.slice A l.length c) l.length (flat3 l)
section
variable {w W W' : World} {g c : Nat} {M M' : Int} {A : Option Addr} {l l' : List T3}
theorem PR.lt (h : PR w g M A c l W) : g < W.heap.size := h.deck.lt
theorem PR.more (h : PR w g M A c l W) (hM : M ≤ M') : PR w g M' A c l W := ⟨h.deck.more hM, h.only, h.own⟩
theorem PR.draw {hgl : g < w.heap.size} (h : PR w g M A c l W) (ho : Only g W W') (hD : Deck W' g M') : PR w g M' A c l W' :=
  ⟨hD, h.only.trans ho, World.ownsRow.kept h.own ho (.inr (fun e => by have := (World.ownsRow.lt h.own g e).1; omega))⟩
theorem PR.app (h : PR w g M A c l W) (hgl : g < w.heap.size) {A' : Option Addr} {c' n' : Nat} {ob : Obj} (hown : W'.ownsRow w.heap.size 42 3 (.slice A' n' c') n' (flat3 l')) (hn : n' = l'.length) (hb : Below w.heap.size (W.alloc ob) W') : PR w g M A' c' l' W' := by
  subst hn
  exact ⟨(h.deck.alloc ob).below hb hgl, only_bel (h.only.alloc ob) hb, hown⟩
theorem PR.rd (h : PR w g M A c l W) : RdT W W.heap.size A l := own_rd3 h.own
end
theorem planOk_of {l : List T3} (hl : l.length ≤ 12) (h : ∀ x ∈ l, fldP x.1 x.2.1 x.2.2 ∧ x.1 ≤ 20474) : PlanOk l := by
  refine ⟨hl, fun k hk => ?_⟩
  have : l.getD k (0, 0, 0) ∈ l := by
    rw [List.getD_eq_getElem?_getD, List.getElem?_eq_getElem hk]
    exact List.getElem_mem hk
  exact h _ this
def PlanPost (g : Nat) (M : Int) (w : World) (e : Ending) (w' : World) : Prop := ∃ A c l, e = .returned (.slice A l.length c) ∧ PlanOk l ∧ PR w g M A c l w'
set_option maxHeartbeats 3200000 in
theorem plan_any (g : Nat) (N ni : Int) (n : Nat) (w : World) (hD : Deck w g N) (hN : N ≤ 800000) (hni : ni = n) (hn : n ≤ 6) :
    Calls Try.prog 11 #[.pointer (some ⟨g, 0, none⟩), .int .i64 ni] w (PlanPost g (N + 24) w) := by
  subst hni
  have hgl := hD.lt
  obtain ⟨i0, hi, hz0, hz1, hz2⟩ := info_parts infoSh
  have HP0 : Hid (PR w g N none 0 [] w) := Lib.hid ⟨hD, Only.refl g w, World.ownsRow_nil _ _ _ _⟩
  have PRd : ∀ {W W' : World} {c : Nat} {M M' : Int} {A : Option Addr} {l : List T3}, PR w g M A c l W → Only g W W' → Deck W' g M' → PR w g M' A c l W' := fun h ho hd => PR.draw (hgl := hgl) h ho hd
  clear hD
  go_enter Try.func11, Try.ntmps11
  go_wp2
  go_loopw [5, 6] (fun v i wr => ∃ (d : Nat) (A : Option Addr) (c : Nat) (l : List T3), d ≤ n + 1 ∧ i = .int .i64 d ∧ v = .slice A l.length c ∧ l.length ≤ 2 * d ∧ l.length ≤ 12 ∧ PR w g (N + 3 * d) A c l wr ∧ ∀ x ∈ l, fldP x.1 x.2.1 x.2.2 ∧ x.1 ≤ 20474) (fun _ i _ => n + 2 - (intOf i).toNat)
  case atStart => exact ⟨0, none, 0, [], by omega, rfl, rfl, by simp, by simp, by simpa using HP0.out, fun x hx => by simp at hx⟩
  case round =>
    obtain ⟨d, A, c, l, hd, rfl, rfl, hl, hl12, hpg, hok⟩ := hrel
    have HP := Lib.hid hpg
    have HOk := Lib.hid hok
    clear hpg hok HP0
    by_cases hlt : d < n
    · go_wp2_with fail
      refine (next_any g (N + 3 * d) 5 _ HP.out.deck (by omega) (by omega) (by omega)).mono ?_
      rintro e w2 ⟨v, rfl, hv, ho, hD⟩
      have HP2 := Lib.hid (PRd HP.out ho hD)
      clear ho hD HP
      have hv5 : v = 0 ∨ v = 1 ∨ v = 2 ∨ v = 3 ∨ v = 4 := by omega
      clear hv
      rcases hv5 with rfl | rfl | rfl | rfl | rfl
      · go_wp2_with fail
        refine (pick_new g (N + 3 * d + 1) [480, 360, 450] _ 3 3 HP2.out.deck (by omega) (by decide) (by decide)).mono ?_
        rintro e w3 ⟨u, rfl, hu, ho, hD⟩
        have HP3 := Lib.hid (PRd HP2.out ho hD)
        clear ho hD
        have Hu : Hid (0 ≤ u ∧ u ≤ 1439) := Lib.hid (by simp at hu; omega)
        clear hu
        go_wp2_with fail
        refine (pick_new g (N + 3 * d + 1 + 1) [480, 510, 300] _ 3 3 HP3.out.deck (by omega) (by decide) (by decide)).mono ?_
        rintro e w4 ⟨q, rfl, hu, ho, hD⟩
        have HP4 := Lib.hid (PRd HP3.out ho hD)
        clear ho hD
        have Hq : Hid (1 ≤ q ∧ q ≤ 1440) := Lib.hid (by simp at hu; omega)
        clear hu
        go_wp2_with (at_builtin; go_must (refine wpList_append_sk _ rfl _ _ 26 rfl w.heap.size 42 i0 _ 3 24 undSh hi hz0 hz1 hz2 rfl (by decide) A c l.length (flat3 l) rfl ?k0 ⟨_, 0, none⟩ 1 1 [.int .i64 (20454 + (d : Int)), .int .i64 u, .int .i64 q] rfl rfl ?k1 ?k2 ?k3 ?k4 ?k5 ?_))
        case k0 => exact HP4.out.own.alloc _
        case k1 => exact cells_at _ _ [.int .i64 (20454 + (d : Int)), .int .i64 u, .int .i64 q] _ (by simp)
        case k2 => exact ints_one [(20454 + (d : Int)), u, q]
        case k3 => unfold maxLen; omega
        case k4 => omega
        case k5 => have := HP4.out.only.size; simp; omega
        intro A2 c2 w9 hown hb hcl
        have HPz := Lib.hid (HP4.out.app (l' := l ++ [(20454 + (d : Int), u, q)]) hgl (by rw [flat3_app]; exact hown) (by simp) hb)
        clear hown hb hcl
        go_wp2
        go_roundw
        case rel =>
          refine ⟨d + 1, A2, c2, l ++ [(20454 + (d : Int), u, q)], by omega, by go_num, by simp, by simp; omega, by simp; omega, HPz.out.more (by omega), fun x hx => ?_⟩
          rcases List.mem_append.1 hx with hx | hx
          · exact HOk.out x hx
          · simp at hx
            subst hx
            have a1 := Hu.out
            have a2 := Hq.out
            all_goals (simp only [fldP]; omega)
        case measure => simp [intOf]; omega
      · go_wp2_with (at_builtin; go_must (refine wpList_append_sk _ rfl _ _ 26 rfl w.heap.size 42 i0 _ 3 24 undSh hi hz0 hz1 hz2 rfl (by decide) A c l.length (flat3 l) rfl ?k0 ⟨_, 0, none⟩ 1 1 [.int .i64 (20454 + (d : Int)), .int .i64 1320, .int .i64 480] rfl rfl ?k1 ?k2 ?k3 ?k4 ?k5 ?_))
        case k0 => exact HP2.out.own.alloc _
        case k1 => exact cells_at _ _ [.int .i64 (20454 + (d : Int)), .int .i64 1320, .int .i64 480] _ (by simp)
        case k2 => exact ints_one [(20454 + (d : Int)), 1320, 480]
        case k3 => unfold maxLen; omega
        case k4 => omega
        case k5 => have := HP2.out.only.size; simp; omega
        intro A2 c2 w9 hown hb hcl
        have HPz := Lib.hid (HP2.out.app (l' := l ++ [(20454 + (d : Int), 1320, 480)]) hgl (by rw [flat3_app]; exact hown) (by simp) hb)
        clear hown hb hcl
        go_wp2
        go_roundw
        case rel =>
          refine ⟨d + 2, A2, c2, l ++ [(20454 + (d : Int), 1320, 480)], by omega, by go_num, by simp, by simp; omega, by simp; omega, HPz.out.more (by omega), fun x hx => ?_⟩
          rcases List.mem_append.1 hx with hx | hx
          · exact HOk.out x hx
          · simp at hx
            subst hx
            all_goals (simp only [fldP]; omega)
        case measure => simp [intOf]; omega
      · go_wp2_with fail
        refine (pick_new g (N + 3 * d + 1) [240, 60] _ 3 2 HP2.out.deck (by omega) (by decide) (by decide)).mono ?_
        rintro e w3 ⟨u, rfl, hu, ho, hD⟩
        have HP3 := Lib.hid (PRd HP2.out ho hD)
        clear ho hD
        have Hu : Hid (1 ≤ u ∧ u ≤ 1440) := Lib.hid (by simp at hu; omega)
        clear hu
        go_wp2_with (at_builtin; go_must (refine wpList_append_sk _ rfl _ _ 26 rfl w.heap.size 42 i0 _ 3 24 undSh hi hz0 hz1 hz2 rfl (by decide) A c l.length (flat3 l) rfl ?k0 ⟨_, 0, none⟩ 2 2 [.int .i64 (20454 + (d : Int)), .int .i64 360, .int .i64 240, .int .i64 (20454 + (d : Int)), .int .i64 720, .int .i64 u] rfl rfl ?k1 ?k2 ?k3 ?k4 ?k5 ?_))
        case k0 => exact HP3.out.own.alloc _
        case k1 => exact cells_at _ _ [.int .i64 (20454 + (d : Int)), .int .i64 360, .int .i64 240, .int .i64 (20454 + (d : Int)), .int .i64 720, .int .i64 u] _ (by simp)
        case k2 => exact ints_one [(20454 + (d : Int)), 360, 240, (20454 + (d : Int)), 720, u]
        case k3 => unfold maxLen; omega
        case k4 => omega
        case k5 => have := HP3.out.only.size; simp; omega
        intro A2 c2 w9 hown hb hcl
        have HPz := Lib.hid (HP3.out.app (l' := l ++ [(20454 + (d : Int), 360, 240), (20454 + (d : Int), 720, u)]) hgl (by rw [flat3_app]; exact hown) (by simp) hb)
        clear hown hb hcl
        go_wp2
        go_roundw
        case rel =>
          refine ⟨d + 1, A2, c2, l ++ [(20454 + (d : Int), 360, 240), (20454 + (d : Int), 720, u)], by omega, by go_num, by simp, by simp; omega, by simp; omega, HPz.out.more (by omega), fun x hx => ?_⟩
          rcases List.mem_append.1 hx with hx | hx
          · exact HOk.out x hx
          · simp at hx
            have a1 := Hu.out
            rcases hx with hx | hx <;> subst hx
            all_goals (simp only [fldP]; omega)
        case measure => simp [intOf]; omega
      · go_wp2
        go_roundw
        case rel => exact ⟨d + 1, A, c, l, by omega, by go_num, rfl, by omega, by omega, HP2.out.more (by omega), HOk.out⟩
        case measure => simp [intOf]; omega
      · go_wp2
        go_roundw
        case rel => exact ⟨d + 1, A, c, l, by omega, by go_num, rfl, by omega, by omega, HP2.out.more (by omega), HOk.out⟩
        case measure => simp [intOf]; omega
    · have HL : Hid (l.length ≤ 12) := Lib.hid hl12
      go_wp2
      exact bodyPost_ret (v := .slice A l.length c) (by simp [results, Try.results11, go_sem]) rfl ⟨A, c, l, rfl, planOk_of HL.out HOk.out, HP.out.more (by omega)⟩
end Go.Proofs.Ytagkdkkpgcolkaa
namespace Go.Proofs.Ytagkdkkpgcolkaa
open Go.RowKit
set_option linter.unusedVariables false
set_option linter.unusedSimpArgs false
def SpPost (w0 : World) (g : Nat) (M : Int) (e : Ending) (w' : World) : Prop := ∃ A c l, e = .returned (.slice A l.length c) ∧ l.length ≤ 12 ∧ PR w0 g M A c l w'
theorem PR.set {w W : World} {g gk c : Nat} {M : Int} {l : List T3} (h : PR w g M (some ⟨gk, 0, none⟩) c l W) (hgl : g < w.heap.size) {i : Nat} (hi : i < l.length) (x y z : Int) :
    PR w g M (some ⟨gk, 0, none⟩) c (l.set i (x, y, z)) (((W.setCell ⟨gk, i * 3, none⟩ (.int .i64 x)).setCell ⟨gk, i * 3 + 1, none⟩ (.int .i64 y)).setCell ⟨gk, i * 3 + 2, none⟩ (.int .i64 z)) := by
  have hk := (World.ownsRow.lt h.own gk rfl).1
  have o1 := (World.ownsRow.stored h.own (i * 3) (.int .i64 x)).1
  have o2 := (World.ownsRow.stored o1 (i * 3 + 1) (.int .i64 y)).1
  have o3 := (World.ownsRow.stored o2 (i * 3 + 2) (.int .i64 z)).1
  have hO : Only gk W (((W.setCell ⟨gk, i * 3, none⟩ (.int .i64 x)).setCell ⟨gk, i * 3 + 1, none⟩ (.int .i64 y)).setCell ⟨gk, i * 3 + 2, none⟩ (.int .i64 z)) :=
    (((Only.refl gk W).setCell (p := ⟨gk, i * 3, none⟩) (.inl rfl) _).setCell (p := ⟨gk, i * 3 + 1, none⟩) (.inl rfl) _).setCell (p := ⟨gk, i * 3 + 2, none⟩) (.inl rfl) _
  refine ⟨h.deck.only hO (by omega), ?_, ?_⟩
  · exact ((h.only.setCell (p := ⟨gk, i * 3, none⟩) (.inr hk) _).setCell (p := ⟨gk, i * 3 + 1, none⟩) (.inr hk) _).setCell (p := ⟨gk, i * 3 + 2, none⟩) (.inr hk) _
  · rw [List.length_set, ← flat3_set l (x, y, z) i hi]
    exact o3
set_option maxHeartbeats 3200000 in
theorem spoil_any {w0 w : World} {g c : Nat} {N : Int} {A : Option Addr} {l : List T3} (hgl : g < w0.heap.size) (h : PR w0 g N A c l w) (hl : l.length ≤ 12) (hN : N ≤ 800000) :
    Calls Try.prog 10 #[.pointer (some ⟨g, 0, none⟩), .slice A l.length c] w (SpPost w0 g (N + 5)) := by
  have HP := Lib.hid h
  clear h
  by_cases h0 : l.length = 0
  · go_enter Try.func10, Try.ntmps10
    go_wp2
    exact bodyPost_ret (v := .slice A l.length c) (by simp [results, Try.results10, go_sem]) rfl ⟨A, c, l, rfl, hl, HP.out.more (by omega)⟩
  · have hz : decide ((l.length : Int) = 0) = false := by rw [decide_eq_false_iff_not]; omega
    have hzb : ((l.length : Int) == 0) = false := by rw [beq_eq_false_iff_ne]; omega
    go_enter Try.func10, Try.ntmps10
    go_wp2_with fail
    refine (next_any g N 5 _ HP.out.deck (by omega) (by omega) (by omega)).mono ?_
    rintro e w2 ⟨v, rfl, hv, ho, hD⟩
    have HP2 := Lib.hid (PR.draw (hgl := hgl) HP.out ho hD)
    clear ho hD HP
    rcases bool_cases (v < 4) with t0 | t0
    · go_wp2
      exact bodyPost_ret (v := .slice A l.length c) (by simp [results, Try.results10, go_sem]) rfl ⟨A, c, l, rfl, hl, HP2.out.more (by omega)⟩
    · go_wp2_with fail
      refine (next_any g (N + 1) l.length _ HP2.out.deck (by omega) (by omega) (by omega)).mono ?_
      rintro e w3 ⟨iv, rfl, hiv, ho, hD⟩
      have HP3 := Lib.hid (PR.draw (hgl := hgl) HP2.out ho hD)
      clear ho hD HP2
      obtain ⟨i, rfl⟩ : ∃ i : Nat, iv = i := ⟨iv.toNat, by omega⟩
      have hi : i < l.length := by omega
      go_wp2_with fail
      refine (pick_new g (N + 1 + 1) [20454, -1, 84006, 84005] _ 3 4 HP3.out.deck (by omega) (by decide) (by decide)).mono ?_
      rintro e w4 ⟨x, rfl, hu, ho, hD⟩
      have HP4 := Lib.hid (PR.draw (hgl := hgl) HP3.out ho hD)
      clear ho hD hu HP3
      go_wp2_with fail
      refine (pick_new g (N + 1 + 1 + 1) [480, 1440, -1, 1439] _ 3 4 HP4.out.deck (by omega) (by decide) (by decide)).mono ?_
      rintro e w5 ⟨y, rfl, hu, ho, hD⟩
      have HP5 := Lib.hid (PR.draw (hgl := hgl) HP4.out ho hD)
      clear ho hD hu HP4
      go_wp2_with fail
      refine (pick_new g (N + 1 + 1 + 1 + 1) [480, 0, 1441, 1440] _ 3 4 HP5.out.deck (by omega) (by decide) (by decide)).mono ?_
      rintro e w6 ⟨z, rfl, hu, ho, hD⟩
      have HP6 := Lib.hid (PR.draw (hgl := hgl) HP5.out ho hD)
      clear ho hD hu HP5
      obtain ⟨gk, rfl⟩ : ∃ g, A = some ⟨g, 0, none⟩ := by
        obtain ⟨g, cap, hv, _, _⟩ := HP6.out.own.form (by omega)
        injection hv with hA _ _
        exact ⟨g, hA⟩
      have hc := HP6.out.own.cells (g := gk) rfl
      have hg := flat3_get l i hi
      have c0 : w6.cell? ⟨gk, i * 3, none⟩ = some (.int .i64 (tA l i)) := by have := hc _ _ hg.1; simpa [Go.WideShapes.add_plain] using this
      have c1 : w6.cell? ⟨gk, i * 3 + 1, none⟩ = some (.int .i64 (tB l i)) := by have := hc _ _ hg.2.1; simpa [Go.WideShapes.add_plain] using this
      have c2 : w6.cell? ⟨gk, i * 3 + 2, none⟩ = some (.int .i64 (tC l i)) := by have := hc _ _ hg.2.2; simpa [Go.WideShapes.add_plain] using this
      have f0 := World.ownsRow.frozenAt HP6.out.own (i * 3)
      have f1 := World.ownsRow.frozenAt HP6.out.own (i * 3 + 1)
      have f2 := World.ownsRow.frozenAt HP6.out.own (i * 3 + 2)
      have HP7 := Lib.hid (PR.set HP6.out hgl hi x y z)
      clear hc hg hv hiv hz hzb
      go_wp2
      exact bodyPost_ret (v := .slice (some ⟨gk, 0, none⟩) l.length c) (by simp [results, Try.results10, go_sem]) rfl ⟨_, c, l.set i (x, y, z), by simp, by simpa using hl, HP7.out.more (by omega)⟩
end Go.Proofs.Ytagkdkkpgcolkaa
