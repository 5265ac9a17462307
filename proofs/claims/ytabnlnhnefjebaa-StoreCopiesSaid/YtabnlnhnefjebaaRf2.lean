/-
  Chapter 41: the reference's store in memory; Sync, Durable. The memory is that of the given program; no conditions.
-/
import Derived.Test.YtabnlnhnefjebaaRf1
namespace Go.Proofs.Ytabnlnhnefjebaa
open Go.RowKit
set_option linter.unusedVariables false
set_option linter.unusedSimpArgs false
theorem ne2348 : (23 : TypeId) ≠ 48 := by decide
theorem ne548 : (5 : TypeId) ≠ 48 := by decide
/-- block q is a store of the reference -/
structure RfV (w : World) (q : Nat) (own : Option Nat) (rs : List (List Int)) (sy : Nat) (A : Option Addr) (c : Nat) (vs : List Value) : Prop where
  own_ : own = (Value.slice A rs.length c).ownBlock
  box : Blk w q 48 #[.slice A rs.length c, .int .i64 sy]
  row : w.ownsRow 0 23 1 (.slice A rs.length c) rs.length vs
  recs : RecV w 0 rs vs
  ok : recsOk rs
  len : needs rs ≤ 16384
  syn : sy ≤ needs rs
def Rf (w : World) (q : Nat) (own : Option Nat) (rs : List (List Int)) (sy : Nat) : Prop := ∃ A c vs, RfV w q own rs sy A c vs
theorem needs_ge (rs : List (List Int)) : (∀ r ∈ rs, 1 ≤ r.length) → rs.length ≤ needs rs := by
  induction rs with
  | nil => intro _; exact Nat.le_refl _
  | cons r rs ih =>
    intro h
    have h1 := h r (by simp)
    have h2 : 1 ≤ need r := need_pos r (fun e => by rw [e] at h1; simp at h1)
    have h3 := ih (fun x hx => h x (by simp [hx]))
    rw [needs_cons, List.length_cons]
    omega
section
variable {w w' : World} {q : Nat} {own : Option Nat} {rs : List (List Int)} {sy : Nat} {A : Option Addr} {c : Nat} {vs : List Value} {S : Nat → Prop}
theorem RfV.rlen (h : RfV w q own rs sy A c vs) : rs.length ≤ 16384 := Nat.le_trans (needs_ge rs (fun r hr => (h.ok r hr).2.1)) h.len
theorem RfV.rbd (h : RfV w q own rs sy A c vs) : ∀ r ∈ rs, r.length ≤ 100000 := fun r hr => by have := (h.ok r hr).2.2; omega
theorem RfV.keep (h : RfV w q own rs sy A c vs) (k : Chg S w w') (hq : ¬ S q) (ho : ∀ g, own = some g → ¬ S g) (hi : ∀ g cs, Blk w g 5 cs → ¬ S g) : RfV w' q own rs sy A c vs :=
  ⟨h.own_, h.box.chg k hq, own_chg h.row k (fun g e => ho g (by rw [h.own_]; exact e)), h.recs.keep k (fun v hv g e => by
    obtain ⟨cs, hcs⟩ := h.recs.typ v hv g e
    exact hi g cs hcs), h.ok, h.len, h.syn⟩
theorem Rf.keep (h : Rf w q own rs sy) (k : Chg S w w') (hq : ¬ S q) (ho : ∀ g, own = some g → ¬ S g) (hi : ∀ g cs, Blk w g 5 cs → ¬ S g) : Rf w' q own rs sy := by
  obtain ⟨A, c, vs, h⟩ := h
  exact ⟨A, c, vs, h.keep k hq ho hi⟩
theorem Rf.below (h : Rf w q own rs sy) (k : Below w.heap.size w w') : Rf w' q own rs sy := h.keep (Chg.of_below' (S := fun _ => False) k) (fun h => h) (fun _ _ h => h) (fun _ _ _ h => h)
theorem RfV.apart (h : RfV w q own rs sy A c vs) : own ≠ some q := by rw [h.own_]; exact own_blk_ne h.row h.box ne2348
theorem RfV.own_typ (h : RfV w q own rs sy A c vs) : ∀ g, own = some g → ∃ cs, Blk w g 23 cs := by
  intro g e
  rw [h.own_] at e
  rcases h.row.2 with ⟨h3, _⟩ | ⟨g', cap, cur, h3, _, hh, _⟩
  · rw [h3] at e; simp [Value.ownBlock] at e
  · rw [h3] at e
    simp [Value.ownBlock] at e
    subst e
    exact ⟨cur, hh⟩
theorem RfV.drewN (h : RfV w q own rs sy A c vs) (n : Nat) : RfV (w.drewN n) q own rs sy A c vs := ⟨h.own_, h.box, h.row, h.recs, h.ok, h.len, h.syn⟩
theorem RfV.blocks (h : RfV w q own rs sy A c vs) {n : Nat} (hn : Hid (rs.length = n)) : Calls Try.prog 14 #[.slice A n c] w fun e w' => e = .returned (.int .i64 (needs rs)) ∧ w = w' := by
  have := h.rlen
  exact blocks_ref A c n rs vs 0 w hn (by rw [← hn.out]; exact h.row) h.recs (by rw [← hn.out]; omega) h.rbd
end
theorem own_takeR {w : World} {base n k : Nat} {e : TypeId} {A : Option Addr} {c : Nat} {xs : List Value} (h : w.ownsRow base e 1 (.slice A n c) n xs) (hk : k ≤ n) : w.ownsRow base e 1 (.slice A k c) k (xs.take k) := by
  refine ⟨by rw [List.length_take, h.1]; omega, ?_⟩
  rcases h.2 with ⟨h1, h2⟩ | ⟨g, cap, cur, h1, h2, h3, h4, h5, h6, h7⟩
  · injection h1 with a1 a2 a3
    left
    subst a1 a3
    have : k = 0 := by omega
    subst this
    exact ⟨rfl, rfl⟩
  · injection h1 with a1 a2 a3
    right
    subst a1 a3
    refine ⟨g, c, cur, rfl, h2, h3, by omega, h5, h6, ?_⟩
    rw [← h7, List.take_take]
    congr 1
    omega
def RSyncPost (q : Nat) (own : Option Nat) (rs : List (List Int)) (w : World) (e : Ending) (w' : World) : Prop := e = .returned (.tuple #[]) ∧ Rf w' q own rs (needs rs) ∧ Only q w w'
theorem rsync_any (q : Nat) (own : Option Nat) (rs : List (List Int)) (sy : Nat) (w : World) (h : Rf w q own rs sy) :
    Calls Try.prog 32 #[.pointer (some ⟨q, 0, none⟩)] w (RSyncPost q own rs w) := by
  obtain ⟨A, c, vs, h⟩ := h
  have HS := Lib.hid h
  have x0 := h.box.cell 0
  have x1 := h.box.cell 1
  have hf := h.box.frozen 1
  simp at x0 x1
  obtain ⟨n, Hn⟩ : ∃ n, Hid (rs.length = n) := ⟨_, Lib.hid rfl⟩
  rw [Hn.out] at x0
  clear h
  go_enter Try.func32, Try.ntmps32
  go_wp2_with (go_at_call 14; refine ((HS.out).blocks Hn).mono ?_; rintro e w' ⟨rfl, rfl⟩)
  go_end0
  have hk : Only q w (w.setCell ⟨q, 1, none⟩ (.int .i64 (needs rs))) := (Only.refl q w).setCell (.inl rfl) _
  have hk' : Chg (fun k => k = q) w (w.setCell ⟨q, 1, none⟩ (.int .i64 (needs rs))) := Chg.of_grown hk (fun i _ e => by injection e with e; exact e.symm)
  refine ⟨rfl, ⟨A, c, vs, ⟨(HS.out).own_, ?_, ?_, ?_, (HS.out).ok, (HS.out).len, Nat.le_refl _⟩⟩, hk⟩
  · simpa using (HS.out).box.set_ 1 (.int .i64 (needs rs))
  · exact own_chg (HS.out).row hk' (fun g e h => (HS.out).apart (by rw [(HS.out).own_, e, h]))
  · exact (HS.out).recs.keep hk' (fun v hv g e h => by
      obtain ⟨cs, hcs⟩ := (HS.out).recs.typ v hv g e
      exact hcs.ne_ (HS.out).box ne548 h)
set_option maxHeartbeats 1600000 in
theorem durable_any (q : Nat) (own : Option Nat) (rs : List (List Int)) (sy : Nat) (w : World) (h : Rf w q own rs sy) :
    Calls Try.prog 44 #[.pointer (some ⟨q, 0, none⟩)] w (RetI (dur rs sy) w) := by
  obtain ⟨A, c, vs, h⟩ := h
  have HS := Lib.hid h
  have x0 := h.box.cell 0
  have x1 := h.box.cell 1
  have hl := h.rlen
  have hcap := own_cap h.row
  have hsy := h.syn
  have hlen := h.len
  simp at x0 x1
  obtain ⟨n, Hn⟩ : ∃ n, Hid (rs.length = n) := ⟨_, Lib.hid rfl⟩
  rw [Hn.out] at x0 hl hcap
  have hcap1 := hcap.1
  have hcap2 := hcap.2
  have hdl : dur rs sy ≤ n := by rw [← Hn.out]; exact dur_le rs sy
  clear h hcap
  go_enter Try.func44, Try.ntmps44
  go_wp2
  clear x0 x1
  go_loopw [3, 4] (fun v i wr => ∃ k : Nat, k ≤ n ∧ i = .int .i64 k ∧ v = .int .i64 (min k (dur rs sy) : Nat) ∧ RfV wr q own rs sy A c vs ∧ Below w.heap.size w wr) (fun _ i _ => n - (intOf i).toNat)
  case atStart => exact ⟨0, Nat.zero_le _, rfl, by simp, HS.out, Below.refl _ _⟩
  case round =>
    obtain ⟨k, hk, rfl, rfl, hS, hbel⟩ := hrel
    have HW := Lib.hid hS
    have HBel := Lib.hid hbel
    have x0 := hS.box.cell 0
    have x1 := hS.box.cell 1
    simp at x0 x1
    rw [Hn.out] at x0
    clear hS hbel HS
    by_cases hlt : k < n
    · have hkr : k < rs.length := by rw [Hn.out]; exact hlt
      have HI := Lib.hid (dur_iff rs sy k hkr)
      have HT : Hid ((rs.take (k + 1)).length = k + 1) := Lib.hid (by rw [List.length_take]; omega)
      have hki : (k : Int) + 1 ≤ (c : Int) := by omega
      have hwr : IntKind.i64.wrap ((k : Int) + 1) = (k : Int) + 1 := IntWalk.i64_in _ (by omega)
      have hk0 : (0 : Int) ≤ (k : Int) + 1 := by omega
      have hk1 : ((k : Int) + 1).toNat = k + 1 := by omega
      have HB : ∀ mm, Calls Try.prog 14 #[.slice A (k + 1) c] (wr.drewN mm) fun e w' => e = .returned (.int .i64 (needs (rs.take (k + 1)))) ∧ w' = wr.drewN mm := fun mm =>
        (blocks_ref A c (k + 1) (rs.take (k + 1)) (vs.take (k + 1)) 0 (wr.drewN mm) HT (by
          have := own_takeR (HW.out).row (k := k + 1) (by omega)
          exact this) ((HW.out).recs.take (k + 1)) (by omega) (fun r hr => (HW.out).rbd r (List.mem_of_mem_take hr))).mono (fun e w' h => ⟨h.1, h.2.symm⟩)
      have HBK := Lib.hid HB
      have hle := needs_take_le rs (k + 1)
      clear HB
      generalize needs (rs.take (k + 1)) = nd at *
      go_upto_region 5 with (fail)
      go_quiet ((go_at_call 14; exact Calls.quiet_of_same (HBK.out _)))
      clear hwr hk0 hk1 x0 x1
      by_cases hd : k < dur rs sy
      · have hnd : (nd : Int) ≤ (sy : Int) := by have := HI.out.1 hd; omega
        have e1 : min k (dur rs sy) = k := by omega
        have HE1 := Lib.hid e1
        have HE2 : Hid (min (k + 1) (dur rs sy) = k + 1) := Lib.hid (by omega)
        rw [e1]
        clear e1
        go_wp2
        go_roundw
        case rel => exact ⟨k + 1, by omega, by go_num, by rw [HE2.out]; go_num, (HW.out).drewN _, (HBel.out).trans (below_drewN (Below.refl _ _) _)⟩
        case measure => simp [intOf]; omega
      · have hnd : ¬ (nd : Int) ≤ (sy : Int) := fun h => hd (HI.out.2 (by omega))
        have HE2 : Hid (min (k + 1) (dur rs sy) = min k (dur rs sy)) := Lib.hid (by omega)
        generalize min k (dur rs sy) = mk at *
        go_wp2
        go_roundw
        case rel => exact ⟨k + 1, by omega, by go_num, by rw [HE2.out], (HW.out).drewN _, (HBel.out).trans (below_drewN (Below.refl _ _) _)⟩
        case measure => simp [intOf]; omega
    · obtain rfl : k = n := by omega
      have HE : Hid (min k (dur rs sy) = dur rs sy) := Lib.hid (by omega)
      go_wp2
      go_ret
      exact ⟨ret_int (by rw [HE.out]), HBel.out⟩
end Go.Proofs.Ytabnlnhnefjebaa
