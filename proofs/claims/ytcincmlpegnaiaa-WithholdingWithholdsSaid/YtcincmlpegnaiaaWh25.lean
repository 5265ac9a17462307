/-
  Chapter 30: drawn records (paygen.Record): only that they are made.
-/
import Derived.Test.YtcincmlpegnaiaaWh18
namespace Go.Proofs.Ytcincmlpegnaiaa
open Go.RowKit
set_option linter.unusedVariables false
set_option linter.unusedSimpArgs false

theorem infoEl : (Try.prog.info? 61).map (fun i => (i.size, i.bytes, i.zero.map (fun z => z.cells.size))) = some (2, 24, some 2) := by kernel_rfl
theorem infoEl_parts : ∃ i z, Try.prog.info? 61 = some i ∧ i.zero = some z ∧ i.size = 2 ∧ i.bytes = 24 ∧ z.cells.size = 2 := by
  have h := infoEl
  cases hi : Try.prog.info? 61 with
  | none => rw [hi] at h; cases h
  | some i =>
    rw [hi] at h
    simp only [Option.map_some, Option.some.injEq, Prod.mk.injEq] at h
    obtain ⟨h1, h2, h3⟩ := h
    cases hz : i.zero with
    | none => rw [hz] at h3; cases h3
    | some z =>
      rw [hz] at h3
      simp only [Option.map_some, Option.some.injEq] at h3
      exact ⟨i, z, rfl, hz, h1, h2, h3⟩
def OwnX (w : World) (base : Nat) (A : Option Addr) (n c : Nat) (xs : List Value) : Prop := w.ownsRow base 61 2 (.slice A n c) n xs
theorem OwnX.only {w w' : World} {base g : Nat} {A : Option Addr} {n c : Nat} {xs : List Value} (h : OwnX w base A n c xs) (ho : Only g w w') (hg : g < base) : OwnX w' base A n c xs :=
  World.ownsRow.kept h ho (.inr (fun e => by have := (World.ownsRow.lt h _ e).1; omega))
def RecPost (g : Nat) (N : Int) (w : World) (e : Ending) (w' : World) : Prop := ∃ A n c, e = .returned (.slice A n c) ∧ Only g w w' ∧ Deck w' g N
theorem four_cell {w : World} {g k : Nat} {t : TypeId} {s0 s1 s2 s3 : ByteArray} (h : Blk w g t #[.string s0, .string s1, .string s2, .string s3]) (hk : k < 4) : ∃ s, w.cell? ⟨g, k, none⟩ = some (.string s) := by
  rw [h.cell k]
  rcases (show k = 0 ∨ k = 1 ∨ k = 2 ∨ k = 3 by omega) with rfl | rfl | rfl | rfl
  · exact ⟨s0, rfl⟩
  · exact ⟨s1, rfl⟩
  · exact ⟨s2, rfl⟩
  · exact ⟨s3, rfl⟩

set_option maxHeartbeats 1600000 in
theorem record_any (g : Nat) (N : Int) (w : World) (hD : Deck w g N) (hN : N ≤ 700000) :
    Calls Try.prog 39 #[.pointer (some ⟨g, 0, none⟩)] w (RecPost g (N + 16) w) := by
  have hgl := hD.lt
  obtain ⟨i0, z0, hi, hz0, hz1, hz2, hz3⟩ := infoEl_parts
  go_enter Try.func39, Try.ntmps39
  go_wp2
  have HD := Lib.hid hD
  clear hD
  go_loopw [3, 5, 8] (fun v _ i wr => ∃ (k n : Nat) (A : Option Addr) (c : Nat) (xs : List Value) (s0 s1 s2 s3 : ByteArray), k ≤ 4 ∧ n ≤ k ∧ i = .int .i64 k ∧ v = .slice A n c ∧ OwnX wr (w.heap.size + 1) A n c xs ∧ Only g w wr ∧ Deck wr g (N + 4 * k) ∧ Blk wr w.heap.size 9 #[.string s0, .string s1, .string s2, .string s3]) (fun _ _ i _ => 4 - (intOf i).toNat)
  case atStart => exact ⟨0, 0, none, 0, [], _, _, _, _, Nat.zero_le _, Nat.le_refl _, rfl, rfl, World.ownsRow_nil _ _ _ _, (Only.refl _ _).alloc _, (HD.out.alloc _).more (by omega), Blk.new _ _ _⟩
  case round =>
    obtain ⟨k, n, A, c, xs, s0, s1, s2, s3, hk, hnk, rfl, rfl, hown, hon, hdk, hblk⟩ := hrel
    have HOW := Lib.hid hown
    have HON := Lib.hid hon
    have HDK := Lib.hid hdk
    have HBK := Lib.hid hblk
    have hbl := hblk.lt
    clear hown hon hdk hblk
    by_cases hlt : k < 4
    · obtain ⟨s, e1⟩ := four_cell HBK.out hlt
      go_wp2_with fail
      refine (next_any g (N + 4 * k) 3 _ HDK.out (by omega) (by omega) (by omega)).mono ?_
      rintro e w1 ⟨v1, rfl, hv1, ho, hD'⟩
      have HOW := Lib.hid (HOW.out.only ho (by omega))
      have HON := Lib.hid (HON.out.trans ho)
      have HBK := Lib.hid (HBK.out.grown ho (by intro e; injection e; omega))
      have HDK := Lib.hid hD'
      clear ho hD' e1
      by_cases h0 : v1 = 0
      · subst h0
        go_wp2_with fail
        refine (small_any g (N + 4 * k + 1) _ HDK.out (by omega)).mono ?_
        rintro e w2 ⟨v2, rfl, hv2, ho, hD'⟩
        have HOW := Lib.hid (HOW.out.only ho (by omega))
        have HON := Lib.hid (HON.out.trans ho)
        have HBK := Lib.hid (HBK.out.grown ho (by intro e; injection e; omega))
        have HDK := Lib.hid hD'
        clear ho hD'
        go_wp2_with fail
        refine (pick_new g (N + 4 * k + 1 + 2) [0, 50, 100, 19999, 20000, v2] _ 3 6 HDK.out (by omega) (by simp) (by simp)).mono ?_
        rintro e w3 ⟨v3, rfl, hx, ho, hD'⟩
        have HOW := Lib.hid (HOW.out.only ho (by omega))
        have HON := Lib.hid (HON.out.trans ho)
        have HBK := Lib.hid (HBK.out.grown ho (by intro e; injection e; omega))
        have HDK := Lib.hid hD'
        have hbl3 := HBK.out.lt
        clear ho hD' hx
        go_wp2_with (at_builtin; go_must (refine wpList_append_sl _ rfl _ _ 23 rfl (w.heap.size + 1) 61 i0 z0 2 24 Try.underlying23 hi hz0 hz1 hz2 hz3 (by decide) A c _ xs rfl (by exact World.ownsRow.alloc HOW.out _) ⟨_, 0, none⟩ 1 1 [.string s, .int .i64 v3] rfl rfl ?c1 ?c2 ?c3 ?c4 ?c5 ?_))
        case c1 => exact cells_at _ _ [.string s, .int .i64 v3] _ (by simp)
        case c2 => intro u hu; simp at hu; rcases hu with rfl | rfl <;> rfl
        case c3 => unfold maxLen; omega
        case c4 => omega
        case c5 => simp; omega
        intro A4 c4 w4 hown4 hb4
        have HO4 := Lib.hid hown4
        have HN4 : Hid (Only g w w4) := Lib.hid (only_below (HON.out.alloc _) (hb4.mono (by omega)))
        have HD4 : Hid (Deck w4 g (N + 4 * (k + 1))) := Lib.hid (((HDK.out.alloc _).below hb4 (by omega)).more (by omega))
        have HB4 := Lib.hid ((HBK.out.alloc _).below hb4 (by omega))
        clear hown4 hb4
        go_wp2
        go_roundw
        case rel => exact ⟨k + 1, n + 1, A4, c4, _, s0, s1, s2, s3, by omega, by omega, by go_num, rfl, HO4.out, HN4.out, by simpa using HD4.out, HB4.out⟩
        case measure => simp [intOf]; omega
      · have t0 : (v1 == 0) = false := by simpa using h0
        go_wp2
        go_roundw
        case rel => exact ⟨k + 1, n, A, c, xs, s0, s1, s2, s3, by omega, by omega, by go_num, rfl, HOW.out, HON.out, HDK.out.more (by simp; omega), HBK.out⟩
        case measure => simp [intOf]; omega
    · go_wp2
      go_ret
      exact ⟨A, n, c, rfl, HON.out, HDK.out.more (by omega)⟩
end Go.Proofs.Ytcincmlpegnaiaa
