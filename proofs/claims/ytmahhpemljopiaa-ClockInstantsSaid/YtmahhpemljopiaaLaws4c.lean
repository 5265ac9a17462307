/-
  The walk of the law ClockInstants.
-/
import Derived.Test.YtmahhpemljopiaaLaws4
import Derived.Deep.RegionHeld3
import Derived.Deep.DeepCutAuto
namespace Go.Proofs.Ytmahhpemljopiaa
open Go.RowKit
set_option linter.unusedVariables false
set_option linter.unusedSimpArgs false

/-- whether one of the first k numbers is n -/
def fnd (L : List Int) (n : Int) : Nat → Bool
  | 0 => false
  | k + 1 => fnd L n k || (at1 L k == n)
theorem fnd_mem {L : List Int} {n : Int} (h : n ∈ L) : fnd L n L.length = true := by
  have key : ∀ k i, i < k → at1 L i = n → fnd L n k = true := by
    intro k
    induction k with
    | zero => intro i hi; omega
    | succ k ih =>
      intro i hi he
      show (fnd L n k || (at1 L k == n)) = true
      by_cases e : i = k
      · subst e; simp [he]
      · rw [ih i (by omega) he]; rfl
  obtain ⟨i, hi, he⟩ := List.mem_iff_getElem.1 h
  exact key L.length i hi (by simp [at1, hi, he])

/-- a zone drawn in a variable, and a list of numbers -/
structure ZL (w : World) (g : Nat) (N : Int) (z : Nat) (o : Int) (A : Option Addr) (c : Nat) (l : List (Int × Int)) (B : Option Addr) (L : List Int) (W : World) : Prop where
  zd : ZD w g N z o A c l W
  rd : RdI W W.heap.size B L
theorem ZL.calc_ {w W W' : World} {g z c : Nat} {N o : Int} {A B : Option Addr} {l : List (Int × Int)} {L : List Int} (h : ZL w g N z o A c l B L W) (hb : Below W.heap.size W W') : ZL w g N z o A c l B L W' :=
  ⟨h.zd.calc_ hb, Rd.more (h.rd.below hb) hb.size⟩
theorem ZL.drew {w W : World} {g z c : Nat} {N o : Int} {A B : Option Addr} {l : List (Int × Int)} {L : List Int} (h : ZL w g N z o A c l B L W) (n : Nat) : ZL w g N z o A c l B L (W.drewN n) :=
  h.calc_ (below_drewN (Below.refl _ _) n)

theorem ZL.drew1 {w W : World} {g z c : Nat} {N o : Int} {A B : Option Addr} {l : List (Int × Int)} {L : List Int} (h : ZL w g N z o A c l B L W) : ZL w g N z o A c l B L W.drew := h.drew 1

set_option maxHeartbeats 1600000 in
set_option maxRecDepth 100000 in
theorem clockInstants_walk (A0 : Option Addr) (c0 : Nat) (l0 : List Int) (loc : Int) (w : World) (hr0 : RdI w w.heap.size A0 l0) (hl0 : l0.length ≤ 9223372036854775807) (hb0 : ∀ i, i < l0.length → InR (at1 l0 i)) (hat : InR loc) :
    Calls Try.prog 3 #[.slice A0 l0.length c0, .int .i64 loc] w (RetB true w) := by
  have HBR := Lib.hid (law_start A0 c0 l0 w hr0 hl0)
  clear hr0 hb0
  generalize hg : w.heap.size = g at HBR
  have HG := Lib.hid hg
  clear hg
  go_enter Try.func3, Try.ntmps3
  go_wp2_with fail
  refine HBR.out.mono ?_
  rintro e w1 ⟨rfl, hbr⟩
  have HBR := Lib.hid hbr
  clear hbr
  go_wp2_with fail
  refine HBR.out.mono ?_
  rintro e w2 ⟨o, A, c, l, rfl, hV, hdr⟩
  have HV := Lib.hid hV
  have HDr := Lib.hid hdr
  have hl64 := hV.1
  clear hdr hV HBR
  go_wp2_with fail
  refine (near_any g 20 _ HDr.out.deck (by omega)).mono ?_
  rintro e w3 ⟨n, rfl, hn, ho, hD⟩
  have HZ := Lib.hid ((HDr.out.draw ho hD).box (o := o) (c := c))
  clear ho hD HDr
  go_wp2_with fail
  refine (local_ok c HZ.out.dr HV.out n ⟨by omega, by omega⟩).mono ?_
  rintro e w4 ⟨rfl, hb⟩
  have HZ := Lib.hid (HZ.out.calc_ hb)
  have z0 := HZ.out.c0
  have z1 := HZ.out.c1
  clear hb
  generalize w3.heap.size = z at *
  go_wp2_with fail
  refine (inst_ok c HZ.out.dr HV.out (lmin o l n)).mono ?_
  rintro e w5 ⟨B, cb, rfl, hb, hr⟩
  have HZL : Hid (ZL w g _ z o A c l B (instL o l (lmin o l n)) w5) := Lib.hid ⟨HZ.out.calc_ hb, hr⟩
  have hL : ∀ x ∈ instL o l (lmin o l n), instOk x ∧ lmin o l x = lmin o l n := fun x hx => (instL_mem HV.out _ x).1 hx
  have HL := Lib.hid hL
  have HLT := Lib.hid (instL_lt HV.out (lmin o l n))
  have HMEM : Hid (fnd (instL o l (lmin o l n)) n (instL o l (lmin o l n)).length = true) := Lib.hid (fnd_mem ((instL_mem HV.out _ n).2 ⟨⟨by omega, by omega⟩, rfl⟩))
  have hLl : (instL o l (lmin o l n)).length ≤ l.length + 1 := by
    have h1 := segs_len o l
    have h2 := inst_len (segs o l) (lmin o l n) (segs o l).length
    unfold instL
    split
    · omega
    · simp
  rw [zerr_of HV.out]
  clear hb hr z0 z1 HZ hL
  generalize instL o l (lmin o l n) = L at *
  generalize lmin o l n = m at *
  go_wp2
  go_loopw [12, 13, 14, 15] (fun f i _ _ wr => ∃ k : Nat, k ≤ L.length ∧ i = .int .i64 k ∧ f = .bool (fnd L n k) ∧ ZL w g (20 + 3) z o A c l B L wr) (fun _ i _ _ _ => L.length - (intOf i).toNat)
  case atStart => exact ⟨0, Nat.zero_le _, rfl, rfl, HZL.out⟩
  case round =>
    obtain ⟨k, hk, rfl, rfl, hz⟩ := hrel
    have HZ := Lib.hid hz
    clear hz HZL
    by_cases hlt : k < L.length
    · obtain ⟨b, off, rfl, hbb, hc⟩ := HZ.out.rd.all (by omega)
      have hx := HL.out (at1 L k) (at1_mem L k hlt)
      have z0 := HZ.out.zd.c0
      have z1 := HZ.out.zd.c1
      have e1 := hc k hlt
      have HCL := Lib.hid hc
      clear hc
      have HC : Hid (∀ W, ZL w g (20 + 3) z o A c l (some ⟨b, off, none⟩) L W → Calls Try.prog 12 #[.agg #[.int .i64 o, .slice A l.length c], .int .i64 (at1 L k)] W (RetII m 0 W)) := Lib.hid (fun W h => by
        have := local_ok c h.zd.dr HV.out (at1 L k) hx.1
        rwa [hx.2] at this)
      clear hx
      go_upto_region 11 with (fail)
      go_cut [14, 15] (fun s14 s15 wx => s14 = .int .i64 m ∧ s15 = .int .i64 0 ∧ ZL w g (20 + 3) z o A c l (some ⟨b, off, none⟩) L wx)
      case first =>
        have hk1 : (0 : Int) ≤ (k : Int) := by omega
        have hk2 : (k : Int) < (L.length : Int) := by omega
        go_region_held3 (fun W => W.cell? ⟨z, 0, none⟩ = some (.int .i64 o) ∧ W.cell? ⟨z, 1, none⟩ = some (.slice A l.length c) ∧ W.cell? ⟨b, off + k, none⟩ = some (.int .i64 (at1 L k))) (first | go_keep | assumption)
          (first | (go_at_call 12; refine (HC.out _ ?_).mono ?_; (repeat (first | exact HZ.out | apply ZL.drew1)); rintro e w6 ⟨rfl, hb6⟩; have HZ6 := Lib.hid (ZL.calc_ (by (repeat (first | exact HZ.out | apply ZL.drew1))) hb6); have y0 := HZ6.out.zd.c0; have y1 := HZ6.out.zd.c1; have y2 : w6.cell? ⟨b, off + k, none⟩ = some (.int .i64 (at1 L k)) := (hb6.cell hbb).trans e1; clear hb6))
        all_goals go_wp2_with fail
        all_goals go_meet
        all_goals exact ⟨rfl, rfl, HZ6.out⟩
      case rest =>
        obtain ⟨rfl, rfl, hz⟩ := hcut
        have HZ := Lib.hid hz
        clear hz z0 z1 e1 HC HCL
        obtain ⟨b', off', hbo, hbb', hc'⟩ := HZ.out.rd.all (by omega)
        injection hbo with hbo
        injection hbo with hbo1 hbo2
        subst hbo1 hbo2
        have e1 := hc' k hlt
        have d1 : (m != m) = false := by simp
        have HF : Hid (fnd L n (k + 1) = (fnd L n k || (at1 L k == n))) := Lib.hid rfl
        generalize fnd L n k = f at *
        by_cases hk0 : 0 < k
        · obtain ⟨j, rfl⟩ : ∃ j, k = j + 1 := ⟨k - 1, by omega⟩
          have e0 := hc' j (by omega)
          have t4 : decide (at1 L (j + 1) ≤ at1 L j) = false := by have := HLT.out j hlt; simp; omega
          have hw := IntWalk.i64_in (j : Int) (by omega)
          have hj1 : j < L.length := by omega
          clear hc'
          cases f
          · go_wp2
            go_quiet (fail)
            clear hw
            go_wp2
            go_roundw
            case rel => exact ⟨j + 1 + 1, by omega, by go_num, by rw [HF.out]; rfl, HZ.out.drew _⟩
            case measure => simp [intOf]; omega
          · go_wp2
            go_quiet (fail)
            clear hw
            go_wp2
            go_roundw
            case rel => exact ⟨j + 1 + 1, by omega, by go_num, by rw [HF.out]; rfl, HZ.out.drew _⟩
            case measure => simp [intOf]; omega
        · have hd : decide ((0 : Int) < (k : Int)) = false := by simp; omega
          have hd' : decide (0 < k) = false := by simp; omega
          clear hc'
          cases f
          · go_wp2
            go_quiet (fail)
            go_wp2
            go_roundw
            case rel => exact ⟨k + 1, by omega, by go_num, by rw [HF.out]; rfl, HZ.out.drew _⟩
            case measure => simp [intOf]; omega
          · go_wp2
            go_quiet (fail)
            go_wp2
            go_roundw
            case rel => exact ⟨k + 1, by omega, by go_num, by rw [HF.out]; rfl, HZ.out.drew _⟩
            case measure => simp [intOf]; omega
    · have hkl : k = L.length := by omega
      subst hkl
      rw [HMEM.out]
      have HZD := Lib.hid HZ.out.zd
      have z0 := HZD.out.c0
      have z1 := HZD.out.c1
      clear HMEM HLT HL
      go_wp2_with fail
      refine (inst_ok c HZD.out.dr HV.out loc).mono ?_
      rintro e w7 ⟨B2, cb2, rfl, hb, hr⟩
      have HZL : Hid (ZL w g _ z o A c l B2 (instL o l loc) w7) := Lib.hid ⟨HZD.out.calc_ hb, hr⟩
      have HL : Hid (∀ x ∈ instL o l loc, instOk x ∧ lmin o l x = loc) := Lib.hid (fun x hx => (instL_mem HV.out _ x).1 hx)
      have hLl2 : (instL o l loc).length ≤ l.length + 1 := by
        have h1 := segs_len o l
        have h2 := inst_len (segs o l) loc (segs o l).length
        unfold instL
        split
        · omega
        · simp
      rw [zerr_of HV.out]
      clear hb hr z0 z1 HZD HZ
      generalize instL o l loc = M at *
      go_wp2
      go_loopw [18, 19, 20] (fun i _ _ wr => ∃ k : Nat, k ≤ M.length ∧ i = .int .i64 k ∧ ZL w g (20 + 3) z o A c l B2 M wr) (fun i _ _ _ => M.length - (intOf i).toNat)
      case atStart => exact ⟨0, Nat.zero_le _, rfl, HZL.out⟩
      case round =>
        obtain ⟨k, hk, rfl, hz⟩ := hrel
        have HZ := Lib.hid hz
        clear hz HZL
        have z0 := HZ.out.zd.c0
        have z1 := HZ.out.zd.c1
        by_cases hlt : k < M.length
        · obtain ⟨b, off, rfl, hbb, hc⟩ := HZ.out.rd.all (by omega)
          have hx := HL.out (at1 M k) (at1_mem M k hlt)
          have e1 := hc k hlt
          clear hc
          have HC : Hid (∀ W, ZL w g (20 + 3) z o A c l (some ⟨b, off, none⟩) M W → Calls Try.prog 12 #[.agg #[.int .i64 o, .slice A l.length c], .int .i64 (at1 M k)] W (RetII loc 0 W)) := Lib.hid (fun W h => by
            have := local_ok c h.zd.dr HV.out (at1 M k) hx.1
            rwa [hx.2] at this)
          clear hx
          go_upto_region 19 with (fail)
          go_cut [19, 20] (fun s14 s15 wx => s14 = .int .i64 loc ∧ s15 = .int .i64 0 ∧ ZL w g (20 + 3) z o A c l (some ⟨b, off, none⟩) M wx)
          case first =>
            have hk1 : (0 : Int) ≤ (k : Int) := by omega
            have hk2 : (k : Int) < (M.length : Int) := by omega
            go_region_held3 (fun W => W.cell? ⟨z, 0, none⟩ = some (.int .i64 o) ∧ W.cell? ⟨z, 1, none⟩ = some (.slice A l.length c) ∧ W.cell? ⟨b, off + k, none⟩ = some (.int .i64 (at1 M k))) (first | go_keep | assumption)
              (first | (go_at_call 12; refine (HC.out _ ?_).mono ?_; (repeat (first | exact HZ.out | apply ZL.drew1)); rintro e w6 ⟨rfl, hb6⟩; have HZ6 := Lib.hid (ZL.calc_ (by (repeat (first | exact HZ.out | apply ZL.drew1))) hb6); have y0 := HZ6.out.zd.c0; have y1 := HZ6.out.zd.c1; have y2 : w6.cell? ⟨b, off + k, none⟩ = some (.int .i64 (at1 M k)) := (hb6.cell hbb).trans e1; clear hb6))
            all_goals go_wp2_with fail
            all_goals go_meet
            all_goals exact ⟨rfl, rfl, HZ6.out⟩
          case rest =>
            obtain ⟨rfl, rfl, hz⟩ := hcut
            have HZ := Lib.hid hz
            clear hz z0 z1 e1 HC
            have d1 : (loc != loc) = false := by simp
            go_wp2
            go_roundw
            case rel => exact ⟨k + 1, by omega, by go_num, HZ.out⟩
            case measure => simp [intOf]; omega
        · have t5 : decide (M.length ≤ l.length + 1) = true := by simpa using hLl2
          have t6 : decide ((M.length : Int) ≤ (l.length : Int) + 1) = true := by simp; omega
          go_wp2_with fail
          refine (sane_any _).mono ?_
          rintro e w11 ⟨rfl, hb⟩
          have HZ := Lib.hid (HZ.out.calc_ hb)
          clear hb
          go_wp2
          go_ret
          exact ⟨rfl, HZ.out.zd.dr.below⟩
end Go.Proofs.Ytmahhpemljopiaa
