/-
  The walk of the law ClockLimits.
-/
import Derived.Test.YtmahhpemljopiaaLaws4
import Derived.Test.YtmahhpemljopiaaReads4
namespace Go.Proofs.Ytmahhpemljopiaa
open Go.RowKit
set_option linter.unusedVariables false
set_option linter.unusedSimpArgs false

def limL : Nat → List (Int × Int)
  | 0 => []
  | k + 1 => limL k ++ [(29453760 + 10 * (k : Int), 60 * ((k : Int) % 2))]
theorem limL_len : ∀ k, (limL k).length = k
  | 0 => rfl
  | k + 1 => by simp [limL, limL_len k]
theorem limL_at : ∀ k i, i < k → fst2 (limL k) i = 29453760 + 10 * (i : Int) ∧ snd2 (limL k) i = 60 * ((i : Int) % 2)
  | 0, i, h => by omega
  | k + 1, i, h => by
    have hl := limL_len k
    show fst2 (limL k ++ [(29453760 + 10 * (k : Int), 60 * ((k : Int) % 2))]) i = _ ∧ snd2 (limL k ++ [(29453760 + 10 * (k : Int), 60 * ((k : Int) % 2))]) i = _
    by_cases e : i = k
    · have h1 := fst2_last (limL k) (29453760 + 10 * (k : Int), 60 * ((k : Int) % 2))
      have h2 := snd2_last (limL k) (29453760 + 10 * (k : Int), 60 * ((k : Int) % 2))
      rw [hl] at h1 h2
      rw [e, h1, h2]
      exact ⟨rfl, rfl⟩
    · rw [fst2_front _ _ _ (by omega), snd2_front _ _ _ (by omega)]
      exact limL_at k i (by omega)
theorem limL_val (k : Nat) (h : k ≤ 64) : ZVal 30 (limL k) := by
  refine ⟨by rw [limL_len]; exact h, ⟨by omega, by omega⟩, fun i hi => ?_, fun i hi => ?_⟩
  · rw [limL_len] at hi
    have := limL_at k i hi
    rw [this.1, this.2]
    unfold offOk
    omega
  · rw [limL_len] at hi
    rw [(limL_at k i (by omega)).1, (limL_at k (i + 1) (by omega)).1]
    omega
theorem limL_err (k : Nat) : zerr 30 (limL k) = if k ≤ 64 then 0 else 3 := by
  by_cases h : k ≤ 64
  · rw [if_pos h, zerr_of (limL_val k h)]
  · rw [if_neg h, zerr_long (by rw [limL_len]; omega)]

/-- the zone under way -/
structure LM (w : World) (k : Nat) (A : Option Addr) (c : Nat) (W : World) : Prop where
  below : Below w.heap.size w W
  box : Blk W w.heap.size 27 #[.int .i64 30, .slice A k c]
  own : W.ownsRow (w.heap.size + 1) 40 2 (.slice A k c) k (flat2 (limL k))
theorem lm_next {w W W' : World} {k c c' : Nat} {A A' : Option Addr} {ob : Obj} (h : LM w k A c W) (hown : W'.ownsRow (w.heap.size + 1) 40 2 (.slice A' (k + 1) c') (k + 1) (flat2 (limL k) ++ [.int .i64 (29453760 + 10 * (k : Int)), .int .i64 (60 * ((k : Int) % 2))])) (hb : Below (w.heap.size + 1) (W.alloc ob) W') :
    LM w (k + 1) A' c' (W'.setCell ⟨w.heap.size, 1, none⟩ (.slice A' (k + 1) c')) := by
  have hbx : Blk W' w.heap.size _ _ := (h.box.alloc ob).below hb (by omega)
  refine ⟨((h.below.alloc h.below.size ob).trans (hb.mono (by omega))).setCell (p := ⟨w.heap.size, 1, none⟩) (Nat.le_refl _) _, ?_, ?_⟩
  · have := hbx.set_ 1 (.slice A' (k + 1) c')
    simpa using this
  · have e : flat2 (limL (k + 1)) = flat2 (limL k) ++ [.int .i64 (29453760 + 10 * (k : Int)), .int .i64 (60 * ((k : Int) % 2))] := flat2_snoc (limL k) _
    rw [e]
    exact World.ownsRow.kept hown ((Only.refl w.heap.size W').setCell (p := ⟨w.heap.size, 1, none⟩) (.inl rfl) _) (.inr (fun e => by have := (World.ownsRow.lt hown w.heap.size e).1; omega))
/-- the zone made -/
structure LN (w : World) (k : Nat) (A : Option Addr) (c : Nat) (W : World) : Prop where
  below : Below w.heap.size w W
  box : Blk W w.heap.size 27 #[.int .i64 30, .slice A k c]
  rd : RdP W W.heap.size A (limL k)
theorem LM.done {w W : World} {k c : Nat} {A : Option Addr} (h : LM w k A c W) : LN w k A c W := ⟨h.below, h.box, by
  have e := limL_len k
  refine own_rd2 (l := limL k) (base := w.heap.size + 1) (e := 40) (c := c) ?_
  rw [e]
  exact h.own⟩
theorem LN.calc_ {w W W' : World} {k c : Nat} {A : Option Addr} (h : LN w k A c W) (hb : Below W.heap.size W W') : LN w k A c W' :=
  ⟨h.below.trans (hb.mono h.below.size), h.box.below hb h.box.lt, Rd.more (h.rd.below hb) hb.size⟩
theorem LN.drew {w W : World} {k c : Nat} {A : Option Addr} (h : LN w k A c W) : LN w k A c W.drew := h.calc_ (below_drewN (Below.refl _ _) 1)
theorem LN.c0 {w W : World} {k c : Nat} {A : Option Addr} (h : LN w k A c W) : W.cell? ⟨w.heap.size, 0, none⟩ = some (.int .i64 30) := h.box.cell 0
theorem LN.c1 {w W : World} {k c : Nat} {A : Option Addr} (h : LN w k A c W) : W.cell? ⟨w.heap.size, 1, none⟩ = some (.slice A k c) := h.box.cell 1

set_option maxHeartbeats 1600000 in
theorem clockLimits_walk (n0 at0 : Int) (w : World) (h1 : InR n0) (h2 : InR at0) :
    Calls Try.prog 7 #[.int .i64 n0, .int .i64 at0] w (RetB true w) := by
  obtain ⟨i0, hi, hz0, hz1, hz2⟩ := info_parts infoCC
  go_enter Try.func7, Try.ntmps7
  go_wp2_with fail
  refine (mod_any n0 3 _ (by omega) (by omega)).mono ?_
  rintro e w1 ⟨rfl, rfl⟩
  have hmb := mod_bd n0 3 (by omega)
  generalize n0 % 3 = m at *
  have HL : Hid (LM w 0 none 0 (w.alloc (.cells #[.int .i64 30, .slice none 0 0] 27))) := Lib.hid ⟨(Below.refl _ _).alloc (Nat.le_refl _) _, Blk.new _ _ _, World.ownsRow_nil _ _ _ _⟩
  go_wp2
  go_loopw [6] (fun i wr => ∃ (k : Nat) (j : Int) (A : Option Addr) (c : Nat), i = .int .i64 j ∧ 0 ≤ j ∧ (k : Int) + j = 63 + m ∧ LM w k A c wr) (fun i _ => (intOf i).toNat)
  case atStart => exact ⟨0, 63 + m, none, 0, rfl, by omega, by simp, HL.out⟩
  case round =>
    obtain ⟨k, j, A, c, rfl, hj, hkj, hlm⟩ := hrel
    have HLM := Lib.hid hlm
    have HKJ := Lib.hid hkj
    have hk65 : k ≤ 65 := by omega
    have hj65 : j ≤ 65 := by omega
    have z0 := hlm.box.cell 0
    have z1 := hlm.box.cell 1
    have zs := hlm.box.lt
    simp at z0 z1
    clear hlm HL hkj
    by_cases hgo : 0 < j
    · go_wp2_with (at_builtin; go_must (refine wpList_append_sk _ rfl _ _ 25 rfl (w.heap.size + 1) 40 i0 _ 2 16 Try.underlying25 hi hz0 hz1 hz2 rfl (by decide) A c k (flat2 (limL k)) rfl (by exact HLM.out.own.alloc _) ⟨_, 0, none⟩ 1 1 [.int .i64 (29453760 + 10 * (k : Int)), .int .i64 (60 * ((k : Int) % 2))] rfl rfl ?c1 ?c2 ?c3 ?c4 ?c5 ?_))
      case c1 => exact cells_at _ _ [.int .i64 (29453760 + 10 * (k : Int)), .int .i64 (60 * ((k : Int) % 2))] _ (by simp)
      case c2 => exact ints_one2 _ _
      case c3 => unfold maxLen; omega
      case c4 => omega
      case c5 => simp; omega
      intro A2 c2 w2 hown2 hb2 _
      have HN := Lib.hid (lm_next HLM.out hown2 hb2)
      have hbx : Blk w2 w.heap.size _ _ := (HLM.out.box.alloc _).below hb2 (by omega)
      have y1 := hbx.cell 1
      have yf := hbx.frozen 1
      simp at y1
      clear hown2 hb2 hbx z0 z1
      go_wp2
      go_roundw
      case rel => exact ⟨k + 1, j - 1, A2, c2, rfl, by omega, by have := HKJ.out; omega, HN.out⟩
      case measure => simp [intOf]; omega
    · have HLN := Lib.hid HLM.out.done
      clear HLM z0 z1
      go_wp2_with fail
      refine (mod_any at0 2000 _ (by omega) (by omega)).mono ?_
      rintro e w3 ⟨rfl, rfl⟩
      have hmb2 := mod_bd at0 2000 (by omega)
      generalize at0 % 2000 = t at *
      have HCV : Hid (∀ W, LN w k A c W → Calls Try.prog 21 #[.agg #[.int .i64 30, .slice A k c]] W (RetI (if k ≤ 64 then 0 else 3) W)) := Lib.hid (fun W h => by
        have := cvalid_any A c _ 30 (limL k) W h.rd (Nat.le_refl _) (by rw [limL_len]; omega)
        rwa [limL_len, limL_err] at this)
      have HCR : Hid (∀ W, LN w k A c W → Calls Try.prog 22 #[.agg #[.int .i64 30, .slice A k c], .int .i64 (29453760 + t - 1000), .int .i64 (29453760 + t - 1000 + 30), .int .i64 20454] W (RetB true W)) := Lib.hid (fun W h => by
        have := reads_any A c _ 30 (limL k) (29453760 + t - 1000) (29453760 + t - 1000 + 30) 20454 W h.rd (Nat.le_refl _) (by rw [limL_len]; omega)
        rwa [limL_len] at this)
      have HCS : Hid (∀ W, LN w k A c W → Calls Try.prog 14 #[] W (RetB true W)) := Lib.hid (fun W h => sane_any W)
      by_cases h64 : k ≤ 64
      · rw [if_pos h64] at HCV
        have d1 : decide (k ≤ 64) = true := by simpa using h64
        have d2 : decide ((k : Int) ≤ 64) = true := by simp; omega
        have z0 := HLN.out.c0
        have z1 := HLN.out.c1
        have q3 : IntKind.i64.wrap (29453760 + t - 1000 + 30) = 29453760 + t - 1000 + 30 := IntWalk.i64_in _ (by omega)
        clear h64
        go_upto_region 7 with (fail)
        go_region_held3 (fun W => W.cell? ⟨w.heap.size, 0, none⟩ = some (.int .i64 30) ∧ W.cell? ⟨w.heap.size, 1, none⟩ = some (.slice A k c)) (first | go_keep | assumption)
          (first | (go_at_call 21; refine (HCV.out _ ?_).mono ?_; (repeat (first | exact HLN.out | apply LN.drew)); rintro e w7 ⟨rfl, hb7⟩; have HL7 := Lib.hid (LN.calc_ (by (repeat (first | exact HLN.out | apply LN.drew))) hb7); have y0 := HL7.out.c0; have y1 := HL7.out.c1; clear hb7) | (go_at_call 22; refine (HCR.out _ ?_).mono ?_; (repeat (first | exact HL7.out | apply LN.drew)); rintro e w8 ⟨rfl, hb8⟩; have HL8 := Lib.hid (LN.calc_ (by (repeat (first | exact HL7.out | apply LN.drew))) hb8); have x0 := HL8.out.c0; have x1 := HL8.out.c1; clear hb8) | (go_at_call 14; refine (HCS.out _ ?_).mono ?_; (repeat (first | exact HL8.out | apply LN.drew)); rintro e w9 ⟨rfl, hb9⟩; have HL9 := Lib.hid (LN.calc_ (by (repeat (first | exact HL8.out | apply LN.drew))) hb9); have v0 := HL9.out.c0; have v1 := HL9.out.c1; clear hb9))
        all_goals go_wp2
        all_goals go_ret
        all_goals exact ⟨rfl, HL9.out.below⟩
      · rw [if_neg h64] at HCV
        have d1 : decide (k ≤ 64) = false := by simpa using h64
        have d2 : decide ((k : Int) ≤ 64) = false := by simp; omega
        have z0 := HLN.out.c0
        have z1 := HLN.out.c1
        have q3 : IntKind.i64.wrap (29453760 + t - 1000 + 30) = 29453760 + t - 1000 + 30 := IntWalk.i64_in _ (by omega)
        clear h64
        go_upto_region 7 with (fail)
        go_region_held3 (fun W => W.cell? ⟨w.heap.size, 0, none⟩ = some (.int .i64 30) ∧ W.cell? ⟨w.heap.size, 1, none⟩ = some (.slice A k c)) (first | go_keep | assumption)
          (first | (go_at_call 21; refine (HCV.out _ ?_).mono ?_; (repeat (first | exact HLN.out | apply LN.drew)); rintro e w7 ⟨rfl, hb7⟩; have HL7 := Lib.hid (LN.calc_ (by (repeat (first | exact HLN.out | apply LN.drew))) hb7); have y0 := HL7.out.c0; have y1 := HL7.out.c1; clear hb7) | (go_at_call 22; refine (HCR.out _ ?_).mono ?_; (repeat (first | exact HL7.out | apply LN.drew)); rintro e w8 ⟨rfl, hb8⟩; have HL8 := Lib.hid (LN.calc_ (by (repeat (first | exact HL7.out | apply LN.drew))) hb8); have x0 := HL8.out.c0; have x1 := HL8.out.c1; clear hb8) | (go_at_call 14; refine (HCS.out _ ?_).mono ?_; (repeat (first | exact HL8.out | apply LN.drew)); rintro e w9 ⟨rfl, hb9⟩; have HL9 := Lib.hid (LN.calc_ (by (repeat (first | exact HL8.out | apply LN.drew))) hb9); have v0 := HL9.out.c0; have v1 := HL9.out.c1; clear hb9))
        all_goals go_wp2
        all_goals go_ret
        all_goals exact ⟨rfl, HL9.out.below⟩
end Go.Proofs.Ytmahhpemljopiaa
