/-
  Chapter 30: drawn tariffs and incomes.
-/
import Derived.Test.YtcincmlpegnaiaaWh9
import Derived.Test.YtcincmlpegnaiaaGen29
namespace Go.Proofs.Ytcincmlpegnaiaa
open Go.RowKit
set_option linter.unusedVariables false
set_option linter.unusedSimpArgs false


/-- n drawn incomes in memory of the call's own -/
def BasesPost (n g : Nat) (N : Int) (w : World) (e : Ending) (w' : World) : Prop :=
  ∃ A c l, e = .returned (.slice A l.length c) ∧ l.length = n ∧ allA l l.length ∧ OwnI w' w.heap.size A c l ∧ Only g w w' ∧ Deck w' g N
theorem ownI_only {w w' : World} {base g c : Nat} {A : Option Addr} {l : List Int} (h : OwnI w base A c l) (ho : Only g w w') (hg : g < base) : OwnI w' base A c l :=
  World.ownsRow.kept h ho (.inr (fun e => by have := (World.ownsRow.lt h _ e).1; omega))
theorem all_snoc {l : List Int} {x : Int} (h : allA l l.length) (hx : amtB x = true) : allA (l ++ [x]) (l ++ [x]).length := fun i hi => by
  simp at hi
  by_cases e : i = l.length
  · subst e; simpa [at1] using hx
  · have := h i (by omega)
    simpa [at1, List.getElem?_append, show i < l.length by omega] using this

set_option maxHeartbeats 3200000 in
theorem bases_any (n : Nat) (hn : n ≤ 60) (g : Nat) (N : Int) (w : World) (hD : Deck w g N) (hN : N ≤ 700000) :
    Calls Try.prog 25 #[.pointer (some ⟨g, 0, none⟩), .int .i64 (n : Int)] w (BasesPost n g (N + 5 * n) w) := by
  have hgw := hD.lt
  have HD0 := Lib.hid hD
  obtain ⟨i0, hi, hz0, hz1, hz2⟩ := info_parts infoInt
  clear hD
  go_enter Try.func25, Try.ntmps25
  go_wp2
  go_loopw [5, 6] (fun v i wr => ∃ (k : Nat) (A1 : Option Addr) (c1 : Nat) (l : List Int), k ≤ n ∧ l.length = k ∧ i = .int .i64 k ∧ v = .slice A1 l.length c1 ∧ allA l l.length ∧ OwnI wr w.heap.size A1 c1 l ∧ Only g w wr ∧ Deck wr g (N + 5 * k)) (fun _ i _ => n - (intOf i).toNat)
  case atStart => exact ⟨0, none, 0, [], Nat.zero_le _, rfl, rfl, rfl, (fun i hi => by simp at hi), World.ownsRow_nil _ _ _ _, Only.refl _ _, HD0.out.more (by omega)⟩
  case round =>
    obtain ⟨k, A1, c1, l, hk, hlk, rfl, rfl, hall, hown, hon, hdk⟩ := hrel
    have HALL := Lib.hid hall
    have HOW := Lib.hid hown
    have HON := Lib.hid hon
    have HDK := Lib.hid hdk
    have HLK := Lib.hid hlk
    have hlen := Nat.le_of_eq hlk
    have hsw := hon.size
    clear hall hown hon hdk hlk HD0
    by_cases hlt : k < n
    · go_wp2_with fail
      refine (small_any g (N + 5 * k) _ HDK.out (by omega)).mono ?_
      rintro e w1 ⟨v1, rfl, hv1, ho, hD'⟩
      have HOW := Lib.hid (ownI_only HOW.out ho hgw)
      have HON := Lib.hid (HON.out.trans ho)
      have HDK := Lib.hid hD'
      clear ho hD'
      go_wp2_with fail
      refine (small_any g (N + 5 * k + 2) _ HDK.out (by omega)).mono ?_
      rintro e w2 ⟨v2, rfl, hv2, ho, hD'⟩
      have HOW := Lib.hid (ownI_only HOW.out ho hgw)
      have HON := Lib.hid (HON.out.trans ho)
      have HDK := Lib.hid hD'
      clear ho hD'
      go_wp2_with fail
      refine (pick_new g (N + 5 * k + 2 + 2) [v1, v2, 0, 500000, 1000000] _ 3 5 HDK.out (by omega) (by simp) (by simp)).mono ?_
      rintro e w3 ⟨v3, rfl, hx, ho, hD'⟩
      have HOW := Lib.hid (ownI_only HOW.out ho hgw)
      have HON := Lib.hid (HON.out.trans ho)
      have HDK := Lib.hid hD'
      have hv3 : 0 ≤ v3 ∧ v3 ≤ 1000000 := by simp at hx; omega
      have hs3 := HON.out.size
      clear ho hD' hx
      go_wp2_with (at_builtin; go_must (refine wpList_append_sl _ rfl _ _ 22 rfl w.heap.size 3 i0 _ 1 8 Try.underlying22 hi hz0 hz1 hz2 rfl (by decide) A1 c1 _ (l.map (Value.int .i64)) rfl (by exact World.ownsRow.alloc HOW.out _) ⟨_, 0, none⟩ 1 1 [.int .i64 v3] rfl rfl ?c1 ?c2 ?c3 ?c4 ?c5 ?_))
      case c1 => exact cells_at _ _ [.int .i64 v3] _ (by simp)
      case c2 => exact ints_one [v3]
      case c3 => unfold maxLen; omega
      case c4 => omega
      case c5 => simp; omega
      intro A3 c3 w4 hown3 hb3
      have HO3 := Lib.hid (ownI_snoc hown3)
      have HN4 := Lib.hid (only_below (HON.out.alloc _) hb3)
      have HD4 : Hid (Deck w4 g (N + 5 * (k + 1))) := Lib.hid (((HDK.out.alloc _).below hb3 hgw).more (by omega))
      have HL4 : Hid (allA (l ++ [v3]) (l ++ [v3]).length) := Lib.hid (all_snoc HALL.out (amt_iff.2 ⟨by omega, by omega⟩))
      clear hown3 hb3
      go_wp2
      go_roundw
      case rel => exact ⟨k + 1, A3, c3, l ++ [v3], by omega, by simp [HLK.out], by go_num, by simp, HL4.out, HO3.out, HN4.out, by simpa using HD4.out⟩
      case measure => simp [intOf]; omega
    · obtain rfl : k = n := by omega
      go_wp2
      go_ret
      exact ⟨A1, c1, l, rfl, HLK.out, HALL.out, HOW.out, HON.out, HDK.out⟩
end Go.Proofs.Ytcincmlpegnaiaa
