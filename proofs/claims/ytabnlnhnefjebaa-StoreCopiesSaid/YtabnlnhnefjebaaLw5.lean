/-
  Chapter 41: a drawn record (payrolllaw41.record). The memory is that of the given program; no conditions.
-/
import Derived.Test.YtabnlnhnefjebaaLw4
namespace Go.Proofs.Ytabnlnhnefjebaa
open Go.RowKit
set_option linter.unusedVariables false
set_option linter.unusedSimpArgs false
theorem pick_at (g : Nat) (N : Int) (l : List Int) (w : World) (gs : Nat) (hgs : gs = w.heap.size) (t : TypeId) (c : Nat) (hD : Deck w g N) (hN : N ≤ 1000000) (h0 : 0 < l.length) (hl : l.length ≤ 1000000) :
    Calls Try.prog 46 #[.pointer (some ⟨g, 0, none⟩), .slice (some ⟨gs, 0, none⟩) l.length c] (w.alloc (.cells (l.map (Value.int .i64)).toArray t)) (DeckInt (fun v => v ∈ l) g (N + 1) w) := by
  subst hgs; exact pick_new g N l w t c hD hN h0 hl
/-- a fresh row of bytes; the deck has moved on -/
def RecPost (g : Nat) (N : Int) (w : World) (e : Ending) (w' : World) : Prop :=
  ∃ (gb m : Nat) (l : List Int), e = .returned (.slice (some ⟨gb, 0, none⟩) m m) ∧ l.length = m ∧ m ≤ 100 ∧ byteOk l ∧ w.heap.size ≤ gb ∧ Blk w' gb 5 (u8s l).toArray ∧ Only g w w' ∧ Deck w' g N
theorem size_of_pick {v : Int} (h : v ∈ [1, 2, 25, 26, 27, 52, 53, 0, 100]) : 0 ≤ v ∧ v ≤ 100 := by
  simp at h; omega
theorem byte_of_pick {v : Int} {k : Nat} (hk : k ≤ 100) (h : v ∈ [0, 165, 1, 255, (k : Int)]) : 0 ≤ v ∧ v ≤ 255 := by
  simp at h; omega
theorem byteOk_set {l : List Int} (h : byteOk l) (k : Nat) {v : Int} (h0 : 0 ≤ v) (h1 : v ≤ 255) : byteOk (l.set k v) := fun x hx => by
  rcases List.mem_or_eq_of_mem_set hx with h2 | h2
  · exact h x h2
  · omega
theorem u8s_store (l : List Int) (k : Nat) (v : Int) : (u8s l).toArray.setIfInBounds k (.int .u8 v) = (u8s (l.set k v)).toArray := by
  simp [u8s, List.map_set]
set_option maxHeartbeats 1600000 in
theorem record_any (g : Nat) (N : Int) (w : World) (hD : Deck w g N) (hN : N ≤ 700000) :
    Calls Try.prog 31 #[.pointer (some ⟨g, 0, none⟩)] w (RecPost g (N + 101) w) := by
  have hgl := hD.lt
  have HD := Lib.hid hD
  clear hD
  go_enter Try.func31, Try.ntmps31
  go_wp2_with fail
  refine (pick_new g N [1, 2, 25, 26, 27, 52, 53, 0, 100] _ 3 9 HD.out (by omega) (by decide) (by decide)).mono ?_
  rintro e w1 ⟨v1, rfl, hv1, ho, hD'⟩
  obtain ⟨hv0, hv2⟩ := size_of_pick hv1
  obtain ⟨m, Hm⟩ : ∃ m : Nat, Hid (v1 = (m : Int)) := ⟨v1.toNat, Lib.hid (by omega)⟩
  have hm : m ≤ 100 := by have := Hm.out; omega
  have HM2 : Hid (m ≤ 100000000) := Lib.hid (by omega)
  have HO := Lib.hid ho
  have HD1 := Lib.hid hD'
  clear ho hD' hv1 hv0 hv2
  go_upto_region 2 with (refine wpList_make23 rfl (.tmp 7) rfl m _ rfl Hm HM2 ?_; intro gb w2 Hgb Hb2 Hbel2)
  have HO2 := Lib.hid (HO.out.trans (Only.of_below Hbel2.out g))
  have HD2 := Lib.hid (HD1.out.below Hbel2.out HD1.out.lt)
  have HGB : Hid (w.heap.size ≤ gb) := Lib.hid (by rw [Hgb.out]; exact HO.out.size)
  have HG : Hid (g < w.heap.size) := Lib.hid hgl
  clear hgl
  go_wp2
  go_loopw [4] (fun i wr => ∃ (k : Nat) (l : List Int), k ≤ m ∧ i = .int .i64 k ∧ l.length = m ∧ byteOk l ∧ Blk wr gb 5 (u8s l).toArray ∧ Only g w wr ∧ Deck wr g (N + 1 + k)) (fun i _ => m - (intOf i).toNat)
  case atStart => exact ⟨0, zeroN m, Nat.zero_le _, rfl, zeroN_len m, zeroN_ok m, Hb2.out, HO2.out, HD2.out.more (by omega)⟩
  case round =>
    obtain ⟨k, l, hk, rfl, hl, hok, hbk, hon, hdk⟩ := hrel
    have HL := Lib.hid hl
    have HOK := Lib.hid hok
    have HBK := Lib.hid hbk
    have HON := Lib.hid hon
    have HDK := Lib.hid hdk
    clear hl hok hbk hon hdk
    by_cases hlt : k < m
    · go_wp2_with fail
      refine (pick_at g (N + 1 + k) [0, 165, 1, 255, (k : Int)] _ _ (by simp) 3 5 HDK.out (by omega) (by simp) (by simp)).mono ?_
      rintro e w3 ⟨v, rfl, hv, ho, hD'⟩
      obtain ⟨hv0, hv1⟩ := byte_of_pick (by omega) hv
      have HB3 := Lib.hid (HBK.out.grown ho (fun e => by injection e with e; have := HG.out; have := HGB.out; omega))
      have HO3 := Lib.hid (HON.out.trans ho)
      have HD3 := Lib.hid hD'
      have HV := Lib.hid (byteOk_set HOK.out k hv0 hv1)
      clear ho hD' hv
      have hfit : ∃ u, w3.cell? ⟨gb, k, none⟩ = some (.int .u8 u) := by
        refine ⟨l[k]'(by rw [HL.out]; omega), ?_⟩
        rw [HB3.out.cell k]
        simp [u8s, HL.out, hlt]
      obtain ⟨u, hfit⟩ := hfit
      have hfr := HB3.out.frozen k
      go_wp2
      go_roundw
      case rel =>
        refine ⟨k + 1, l.set k v, by omega, by go_num, by simp [HL.out], HV.out, ?_, HO3.out.setCell (.inr HGB.out) _, ?_⟩
        · have := HB3.out.set_ k (.int .u8 v)
          rwa [u8s_store] at this
        · have h4 := HD3.out.below ((Below.refl w.heap.size w3).setCell (p := ⟨gb, k, none⟩) HGB.out (.int .u8 v)) HG.out
          exact h4.more (by omega)
      case measure => simp [intOf]; omega
    · obtain rfl : k = m := by omega
      go_wp2
      go_ret
      exact ⟨gb, _, l, rfl, HL.out, hm, HOK.out, HGB.out, HBK.out, HON.out, HDK.out.more (by omega)⟩
end Go.Proofs.Ytabnlnhnefjebaa
