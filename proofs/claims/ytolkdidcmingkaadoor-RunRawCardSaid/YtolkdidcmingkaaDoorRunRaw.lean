/-
  The law RunRaw: for every input it returns true, and every argument reads behind the call as it read before; the table of transitions starts as the program's text lays it (the card ties it). No other conditions.
-/
import Derived.Test.YtolkdidcmingkaaDoorTab
import Derived.Test.YtolkdidcmingkaaDoorRun23
import Derived.Test.YtolkdidcmingkaaDoorTie
import Derived.Test.YtolkdidcmingkaaDoorCards
import Derived.SevenTiedAt
import Derived.Test.YtolkdidcmingkaaDoorOpenR
namespace Go.Proofs.YtolkdidcmingkaaDoor.runRaw
open Go.ChangeShapes Go.WideShapes Go.ChangeAt Go.RowKit
set_option linter.unusedVariables false

theorem layR : ∃ f0 f1 f2 g0 g1 g2, Lay Tryd.prog 27 3 f0 f1 f2 g0 g1 g2 := ⟨_, _, _, _, _, _, Tryd.underlying27, by kernel_rfl, rfl, rfl, rfl, by kernel_rfl, by kernel_rfl, by kernel_rfl, Tryd.underlying3, Tryd.underlying23, Tryd.underlying3, by kernel_rfl, Tryd.underlying25, rfl, rfl, rfl, by kernel_rfl, by kernel_rfl, by kernel_rfl, Tryd.underlying3, Tryd.underlying3, Tryd.underlying3⟩
theorem layC : ∃ f0 f1 f2 g0 g1 g2, Lay Tryd.prog 32 3 f0 f1 f2 g0 g1 g2 := ⟨_, _, _, _, _, _, Tryd.underlying32, by kernel_rfl, rfl, rfl, rfl, by kernel_rfl, by kernel_rfl, by kernel_rfl, Tryd.underlying3, Tryd.underlying23, Tryd.underlying3, by kernel_rfl, Tryd.underlying25, rfl, rfl, rfl, by kernel_rfl, by kernel_rfl, by kernel_rfl, Tryd.underlying3, Tryd.underlying3, Tryd.underlying3⟩
set_option maxRecDepth 100000 in
theorem lifted (os : Os) (started : os.Started) (H : Type) (enc : TypeId × Value → H) :
    ReturnsInHanded {} Tryd.checked os 7 .any (fun w args => (Rows.runRawSpec.pre enc Tryd.prog Tryd.f7 [] false w args ∧ laidMetH Tryd.prog laidT w) ∧ sizedMet enc Tryd.prog Tryd.f7 (OpenSpec.ofChange Rows.runRawSpec) false w args)
      (Rows.runRawSpec.post enc Tryd.prog Tryd.f7 false true false false) := by
  refine returnsInHanded_of_change_and (C := Tryd.checked) (X := fun w _ => laidMetH Tryd.prog laidT w) (fun _ _ _ hh h => h.of_heap hh) ownK started (by kernel_rfl) Tryd.func7
    (ChangeSpec.witness_shaped (enc := enc) (C := Tryd.checked) (os := os) (X := fun w _ => laidMetH Tryd.prog laidT w) false (World.doorLaid Tryd.prog 400 os) #[.agg #[.int .i64 0, .slice none 0 0, .int .i64 0, .int .i64 0, .int .i64 0], .agg #[.int .i64 0, .slice none 0 0, .int .i64 0, .int .i64 0, .int .i64 0], .slice none 0 0] 8 rfl (World.shaped_of_RefB (by kernel_rfl) (by kernel_rfl)) (by kernel_rfl) (by kernel_rfl) (by kernel_rfl) (door_met os _)) ?_
  intro W base args ds gs before hval0 hW _ _ hL _
  have hval : ∀ (j : Nat) t v, Tryd.f7.params[j]? = some t → args[j]? = some v → Value.okWide Tryd.prog W .any base t v := hval0
  have hW' := hW
  obtain ⟨p, q, hA0, hV, rfl, hfz, hnd⟩ := hW
  have hA : DataW.TrodAll enc Tryd.prog W 0 (fun _ => true) true Tryd.f7.params.toList args.toList ds p := hA0
  rw [Tryd.params7] at hA hval
  obtain ⟨v0, vs0, d0, ds0, p0, q0, hargs, rfl, rfl, h0, r0⟩ := trodAll_cons hA
  obtain ⟨v1, vs1, d1, ds1, p1, q1, rfl, rfl, rfl, h1, r1⟩ := trodAll_cons r0
  obtain ⟨v2, vs2, d2, ds2, p2, q2, rfl, rfl, rfl, h2, r2⟩ := trodAll_cons r1
  obtain ⟨rfl, rfl, rfl⟩ := trodAll_nil r2
  obtain rfl : args = #[v0, v1, v2] := by cases args; simp_all
  obtain ⟨rfl, rfl⟩ := trodVars_none hV
  have k0 := h0
  have lt0 : ∀ x ∈ p0, x.block < W.heap.size := by obtain ⟨m, hm⟩ := k0; exact DataW.trod_lt m _ _ _ hm
  obtain ⟨s0, a0, cap0, l0, x0, y0, z0, rfl, hl0, hr0⟩ := open_run layR.choose_spec.choose_spec.choose_spec.choose_spec.choose_spec.choose_spec (hval 0 27 v0 rfl rfl) h0
  have k1 := h1
  have lt1 : ∀ x ∈ p1, x.block < W.heap.size := by obtain ⟨m, hm⟩ := k1; exact DataW.trod_lt m _ _ _ hm
  obtain ⟨s1, a1, cap1, l1, x1, y1, z1, rfl, hl1, hr1⟩ := open_run layC.choose_spec.choose_spec.choose_spec.choose_spec.choose_spec.choose_spec (hval 1 32 v1 rfl rfl) h1
  have k2 := h2
  have lt2 : ∀ x ∈ p2, x.block < W.heap.size := by obtain ⟨m, hm⟩ := k2; exact DataW.trod_lt m _ _ _ hm
  obtain ⟨a2, len2, cap2, rfl⟩ := okWide_slice Tryd.underlying36 (hval 2 36 v2 rfl rfl)
  obtain ⟨l2, rfl, hl2, hr2, hm2⟩ := open_cmds layC.choose_spec.choose_spec.choose_spec.choose_spec.choose_spec.choose_spec Tryd.underlying36 h2
  clear hA0 hval0
  refine (runRaw_walk s0 a0 cap0 l0 x0 y0 z0 s1 a1 cap1 l1 x1 y1 z1 a2 cap2 l2 W (of_laid hL) hr0 hl0 hr1 hl1 hr2 hm2 hl2).mono fun e W' ⟨he, bel⟩ => ?_
  subst he
  exact ⟨_, rfl, _, _, _, [], _, [], hW', trodAll_mk1 (shut_bool Tryd.underlying4 _), (trodAll_cons_mk (Below.trod laidOut (by kernel_rfl) (of_decide_eq_true (by kernel_rfl)) k0 bel lt0) (trodAll_cons_mk (Below.trod laidOut (by kernel_rfl) (of_decide_eq_true (by kernel_rfl)) k1 bel lt1) (trodAll_cons_mk (Below.trod laidOut (by kernel_rfl) (of_decide_eq_true (by kernel_rfl)) k2 bel lt2) trodAll_mk0))), rfl, bel.frame _, fun h => by cases h⟩

theorem over : Rows.RunRawSaid :=
  OpenClaim.holds_of_wide 7 Tryd.f7 rfl rfl rfl rfl rfl rfl rfl ⟨rfl, rfl, rfl, rfl, rfl⟩ rfl rfl rfl rfl rfl (by kernel_rfl) Tryd.func7 (by kernel_rfl)
    (of_decide_eq_true (by kernel_rfl)) (by unfold Func.isWrapper; first | (rw [if_pos (by decide +kernel)]; kernel_rfl) | (rw [if_neg (by decide +kernel)]; exact ⟨rfl, rfl⟩))
    (fun os started H enc _ => lifted os started H enc)

theorem proved : Rows.RunRawCardSaid :=
  Claim7.holds_tied_plain_at .later [] [.data] true (true, "bc7beec3430e3cad9b028d9bb9bf06fc0f56ca32899d6b732b20f1496402ae69") false
    over (fun _ h => by cases h) (by kernel_rfl) (fun _ h => by cases h) runRaw_row_tie rfl ⟨rfl, rfl⟩ (by kernel_rfl) rfl
    (fun f fn hf hfn => by
      obtain rfl : f = 7 := Option.some.inj ((show Tryd.prog.funcNamed "payroll/payrolllaw40.RunRaw" = some 7 by kernel_rfl).symm.trans hf) |>.symm
      obtain rfl : fn = Tryd.f7 := (Option.some.inj (Tryd.func7.symm.trans hfn)).symm
      exact ⟨by kernel_rfl, fun j t ht => by
        rw [Tryd.params7] at ht
        have hm : t ∈ ([27, 32, 36] : List Nat) := by simpa using Array.mem_of_getElem? ht
        have hall : (([27, 32, 36] : List Nat).all fun u => !Tryd.prog.wantsStandIn u) = true := by kernel_rfl
        exact (show Tryd.prog.wantsStandIn t = false by simpa using List.all_eq_true.1 hall t hm)⟩)
    (by kernel_rfl)
#print axioms proved
end Go.Proofs.YtolkdidcmingkaaDoor.runRaw
