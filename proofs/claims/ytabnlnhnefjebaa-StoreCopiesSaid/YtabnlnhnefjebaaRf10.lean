/-
  Chapter 41: block of the reference. The memory is that of the given program; no conditions.
-/
import Derived.Test.YtabnlnhnefjebaaStP3
import Derived.Test.YtabnlnhnefjebaaLw9
namespace Go.Proofs.Ytabnlnhnefjebaa
open Go.RowKit
set_option linter.unusedVariables false
set_option linter.unusedSimpArgs false
def RBad (w : World) (e : Ending) (w' : World) : Prop := e = .returned (.tuple #[.slice none 0 0, .bool false, .bool false]) ∧ w = w'
def RGood (g off s c : Nat) (la : Bool) (w : World) (e : Ending) (w' : World) : Prop := e = .returned (.tuple #[.slice (some ⟨g, off + 5, none⟩) s (c - 5), .bool la, .bool true]) ∧ w = w'
set_option maxRecDepth 100000 in
set_option maxHeartbeats 1600000 in
theorem rb_bad1 (g off c : Nat) (num x0 x1 x2 x3 x31 : Int) (w : World) (hc : 32 ≤ c) (hc2 : c ≤ 9223372036854775807) (hk0 : 0 ≤ num) (hk1 : num ≤ 16384) (y0 : w.cell? ⟨g, off, none⟩ = some (.int .u8 x0)) (y1 : w.cell? ⟨g, off + 1, none⟩ = some (.int .u8 x1)) (y2 : w.cell? ⟨g, off + 2, none⟩ = some (.int .u8 x2)) (y3 : w.cell? ⟨g, off + 3, none⟩ = some (.int .u8 x3)) (y31 : w.cell? ⟨g, off + 31, none⟩ = some (.int .u8 x31))
    (hbad : ¬ (x0 = num / 16777216 ∧ x1 = num / 65536 ∧ x2 = num / 256 ∧ x3 = num % 256 ∧ x31 = 165)) :
    Calls Try.prog 45 #[.slice (some ⟨g, off, none⟩) 32 c, .int .i64 num] w (RBad w) := by
  have HBad := Lib.hid hbad
  clear hbad
  go_enter Try.func45, Try.ntmps45
  go_upto_region 3 with (fail)
  all_goals first
    | exact bodyPost_ret (v := .tuple #[.slice none 0 0, .bool false, .bool false]) (by simp [results, Try.results45, go_sem]) rfl ⟨rfl, rfl⟩
    | exact absurd ⟨by assumption, by assumption, by assumption, by assumption, by simpa using ‹(x31 != 165) = false›⟩ HBad.out
set_option maxRecDepth 100000 in
set_option maxHeartbeats 1600000 in
theorem rb_bad2 (g off c : Nat) (num x4 : Int) (w : World) (hc : 32 ≤ c) (hc2 : c ≤ 9223372036854775807) (hk0 : 0 ≤ num) (hk1 : num ≤ 16384) (y0 : w.cell? ⟨g, off, none⟩ = some (.int .u8 (num / 16777216))) (y1 : w.cell? ⟨g, off + 1, none⟩ = some (.int .u8 (num / 65536))) (y2 : w.cell? ⟨g, off + 2, none⟩ = some (.int .u8 (num / 256))) (y3 : w.cell? ⟨g, off + 3, none⟩ = some (.int .u8 (num % 256))) (y4 : w.cell? ⟨g, off + 4, none⟩ = some (.int .u8 x4)) (y31 : w.cell? ⟨g, off + 31, none⟩ = some (.int .u8 165))
    (b4 : 0 ≤ x4) (b5 : x4 ≤ 255) (hbad : x4 % 128 < 1 ∨ 26 < x4 % 128 ∨ (x4 < 128 ∧ x4 % 128 ≠ 26)) :
    Calls Try.prog 45 #[.slice (some ⟨g, off, none⟩) 32 c, .int .i64 num] w (RBad w) := by
  rcases (show x4 % 128 < 1 ∨ 26 < x4 % 128 ∨ (x4 < 128 ∧ x4 % 128 ≠ 26 ∧ ¬ 26 < x4 % 128) by omega) with h | h | ⟨h, h', h2⟩
  all_goals clear hbad
  · go_enter Try.func45, Try.ntmps45
    go_wp2
    exact bodyPost_ret (v := .tuple #[.slice none 0 0, .bool false, .bool false]) (by simp [results, Try.results45, go_sem]) rfl ⟨rfl, rfl⟩
  · have h1 : ¬ x4 % 128 < 1 := by omega
    go_enter Try.func45, Try.ntmps45
    go_wp2
    exact bodyPost_ret (v := .tuple #[.slice none 0 0, .bool false, .bool false]) (by simp [results, Try.results45, go_sem]) rfl ⟨rfl, rfl⟩
  · by_cases h1 : x4 % 128 < 1
    · go_enter Try.func45, Try.ntmps45
      go_wp2
      exact bodyPost_ret (v := .tuple #[.slice none 0 0, .bool false, .bool false]) (by simp [results, Try.results45, go_sem]) rfl ⟨rfl, rfl⟩
    · have h3 : decide (128 ≤ x4) = false := by simp; omega
      have h4 : (x4 % 128 != 26) = true := by simpa using h'
      clear h'
      go_enter Try.func45, Try.ntmps45
      go_wp2
      all_goals first
        | exact bodyPost_ret (v := .tuple #[.slice none 0 0, .bool false, .bool false]) (by simp [results, Try.results45, go_sem]) rfl ⟨rfl, rfl⟩
        | (exfalso; omega)
/-- bytes of a block in memory, letter by letter -/
structure BlkAt (w : World) (g off : Nat) (num x4 : Int) : Prop where
  y0 : w.cell? ⟨g, off, none⟩ = some (.int .u8 (num / 16777216))
  y1 : w.cell? ⟨g, off + 1, none⟩ = some (.int .u8 (num / 65536))
  y2 : w.cell? ⟨g, off + 2, none⟩ = some (.int .u8 (num / 256))
  y3 : w.cell? ⟨g, off + 3, none⟩ = some (.int .u8 (num % 256))
  y4 : w.cell? ⟨g, off + 4, none⟩ = some (.int .u8 x4)
  y31 : w.cell? ⟨g, off + 31, none⟩ = some (.int .u8 165)
set_option maxRecDepth 100000 in
set_option maxHeartbeats 1600000 in
theorem rb_good (g off c s : Nat) (num x4 : Int) (la : Bool) (x : List Int) (w : World) (hc : 32 ≤ c) (hc2 : c ≤ 9223372036854775807) (hk0 : 0 ≤ num) (hk1 : num ≤ 16384) (hy : BlkAt w g off num x4)
    (b4 : 0 ≤ x4) (b5 : x4 ≤ 255) (hs : x4 % 128 = s) (h1 : 1 ≤ s) (h26 : s ≤ 26) (hla : la = decide (128 ≤ x4)) (hfull : 128 ≤ x4 ∨ s = 26) (hcell : Hid (∀ i, i < 32 → w.cell? ⟨g, off + i, none⟩ = some (.int .u8 (at1 x i)))) (hz : Hid (∀ k, 5 + s ≤ k → k < 31 → at1 x k = 0)) :
    Calls Try.prog 45 #[.slice (some ⟨g, off, none⟩) 32 c, .int .i64 num] w (RGood g off s c la w) := by
  obtain ⟨y0, y1, y2, y3, y4, y31⟩ := hy
  have t1 : ¬ (s : Int) < 1 := by omega
  have t2 : ¬ 26 < (s : Int) := by omega
  have hcc : 5 + (s : Int) ≤ (c : Int) := by omega
  have H26 : Hid (s ≤ 26) := Lib.hid h26
  have H1 : Hid (1 ≤ s) := Lib.hid h1
  have hle : 5 ≤ 5 + (s : Int) := by omega
  have hwr : IntKind.i64.wrap (5 + (s : Int)) = 5 + (s : Int) := IntWalk.i64_in _ (by omega)
  have HSub : Hid ((5 + (s : Int)) - 5 = s) := Lib.hid (by omega)
  have hq : (128 ≤ x4 ∧ la = true) ∨ (x4 < 128 ∧ la = false ∧ ((s : Int) != 26) = false) := by
    by_cases h : 128 ≤ x4
    · exact .inl ⟨h, by rw [hla]; simpa using h⟩
    · exact .inr ⟨by omega, by rw [hla]; simpa using h, by have := hfull.resolve_left h; simp; omega⟩
  rcases hq with ⟨hf, rfl⟩ | ⟨hf, rfl, h27⟩
  all_goals
    clear hla hfull h26 h1
    go_enter Try.func45, Try.ntmps45
    go_wp2
    go_loop [9] (fun i => ∃ k : Nat, 5 + s ≤ k ∧ k ≤ 31 ∧ i = .int .i64 k) (fun i => 31 - (intOf i).toNat)
    case atStart => exact ⟨5 + s, Nat.le_refl _, by have := H26.out; omega, by go_num⟩
    case round =>
      obtain ⟨k, hk5, hk31, rfl⟩ := hrel
      by_cases hlt : k < 31
      · have hc1 : w.cell? ⟨g, off + k, none⟩ = some (.int .u8 0) := by rw [hcell.out k (by omega), hz.out k hk5 hlt]
        go_wp2
        go_round
        case rel => exact ⟨k + 1, by omega, by omega, by go_num⟩
        case measure => simp [intOf]; omega
      · obtain rfl : k = 31 := by omega
        go_wp2
        exact bodyPost_ret (v := .tuple #[.slice (some ⟨g, off + 5, none⟩) s (c - 5), .bool _, .bool true]) (by simp [results, Try.results45, go_sem, hf]) rfl ⟨rfl, rfl⟩
set_option maxRecDepth 100000 in
set_option maxHeartbeats 1600000 in
theorem rb_pad (g off c s k0 : Nat) (num x4 : Int) (x : List Int) (w : World) (hc : 32 ≤ c) (hc2 : c ≤ 9223372036854775807) (hk0 : 0 ≤ num) (hk1 : num ≤ 16384) (hy : BlkAt w g off num x4)
    (b4 : 0 ≤ x4) (b5 : x4 ≤ 255) (hs : x4 % 128 = s) (h1 : 1 ≤ s) (h26 : s ≤ 26) (hfull : 128 ≤ x4 ∨ s = 26) (hcell : Hid (∀ i, i < 32 → w.cell? ⟨g, off + i, none⟩ = some (.int .u8 (at1 x i)))) (hz : 5 + s ≤ k0) (hz1 : k0 < 31) (hz2 : Hid (at1 x k0 ≠ 0)) :
    Calls Try.prog 45 #[.slice (some ⟨g, off, none⟩) 32 c, .int .i64 num] w (RBad w) := by
  obtain ⟨y0, y1, y2, y3, y4, y31⟩ := hy
  have t1 : ¬ (s : Int) < 1 := by omega
  have t2 : ¬ 26 < (s : Int) := by omega
  have H26 : Hid (s ≤ 26) := Lib.hid h26
  have hle : 5 ≤ 5 + (s : Int) := by omega
  have hwr : IntKind.i64.wrap (5 + (s : Int)) = 5 + (s : Int) := IntWalk.i64_in _ (by omega)
  have hq : (128 ≤ x4) ∨ (x4 < 128 ∧ ((s : Int) != 26) = false) := by
    by_cases h : 128 ≤ x4
    · exact .inl h
    · exact .inr ⟨by omega, by have := hfull.resolve_left h; simp; omega⟩
  rcases hq with hf | ⟨hf, h27⟩
  all_goals
    clear hfull h26 h1
    go_enter Try.func45, Try.ntmps45
    go_wp2
    go_loop [9] (fun i => ∃ k : Nat, 5 + s ≤ k ∧ k ≤ k0 ∧ i = .int .i64 k) (fun i => 31 - (intOf i).toNat)
    case atStart => exact ⟨5 + s, Nat.le_refl _, hz, by go_num⟩
    case round =>
      obtain ⟨k, hk5, hk31, rfl⟩ := hrel
      have hlt : k < 31 := by omega
      by_cases hx : at1 x k = 0
      · have hc1 : w.cell? ⟨g, off + k, none⟩ = some (.int .u8 0) := by rw [hcell.out k (by omega), hx]
        have hne : k ≠ k0 := fun e => hz2.out (by rw [← e]; exact hx)
        clear hx
        go_wp2
        go_round
        case rel => exact ⟨k + 1, by omega, by omega, by go_num⟩
        case measure => simp [intOf]; omega
      · obtain ⟨v, Hv⟩ : ∃ v, Hid (v = at1 x k) := ⟨_, Lib.hid rfl⟩
        have hc1 : w.cell? ⟨g, off + k, none⟩ = some (.int .u8 v) := by rw [hcell.out k (by omega), Hv.out]
        have hv : (v == 0) = false := by rw [Hv.out]; simpa using hx
        clear hx
        go_wp2
        all_goals exact bodyPost_ret (v := .tuple #[.slice none 0 0, .bool false, .bool false]) (by simp [results, Try.results45, go_sem]) rfl ⟨rfl, rfl⟩
section
variable {g off c n : Nat} {x : List Int} {w : World}
theorem blkAt_of (hx : x.length = 32) (hn : n ≤ 16384) (hcell : ∀ i, i < 32 → w.cell? ⟨g, off + i, none⟩ = some (.int .u8 (at1 x i))) (h0 : at1 x 0 = (n : Int) / 16777216) (h1 : at1 x 1 = (n : Int) / 65536) (h2 : at1 x 2 = (n : Int) / 256) (h3 : at1 x 3 = (n : Int) % 256) (h31 : at1 x 31 = 165) : BlkAt w g off n (at1 x 4) :=
  ⟨by have := hcell 0 (by omega); rwa [h0] at this, by rw [hcell 1 (by omega), h1], by rw [hcell 2 (by omega), h2], by rw [hcell 3 (by omega), h3], hcell 4 (by omega), by rw [hcell 31 (by omega), h31]⟩
theorem rblock_yes (hx : x.length = 32) (hb : byteOk x) (hc : 32 ≤ c) (hc2 : c ≤ 9223372036854775807) (hn : n ≤ 16384) (hcell : ∀ i, i < 32 → w.cell? ⟨g, off + i, none⟩ = some (.int .u8 (at1 x i))) (hf : formed n x = true) :
    Calls Try.prog 45 #[.slice (some ⟨g, off, none⟩) 32 c, .int .i64 n] w (RGood g off (bsize x) c (blast x) w) := by
  have h := form_of hx hf
  have h4 := byteOk_at hb 4
  have e0 := h.a0
  have e1 := h.a1
  have e2 := h.a2
  have e3 := h.a3
  have hl := h.lo
  have hh := h.hi
  have hfu := h.full
  refine rb_good g off c (bsize x) n (at1 x 4) (blast x) x w hc hc2 (by omega) (by omega) (blkAt_of hx hn hcell (by omega) (by omega) (by omega) (by omega) h.a31) h4.1 h4.2 ?_ hl hh rfl ?_ (Lib.hid hcell) (Lib.hid h.pad)
  · unfold bsize; omega
  · rcases hfu with hfu | hfu
    · left; unfold blast at hfu; simpa using hfu
    · right; exact hfu
theorem rblock_no (hx : x.length = 32) (hb : byteOk x) (hc : 32 ≤ c) (hc2 : c ≤ 9223372036854775807) (hn : n ≤ 16384) (hcell : ∀ i, i < 32 → w.cell? ⟨g, off + i, none⟩ = some (.int .u8 (at1 x i))) (hf : formed n x = false) :
    Calls Try.prog 45 #[.slice (some ⟨g, off, none⟩) 32 c, .int .i64 n] w (RBad w) := by
  have h4 := byteOk_at hb 4
  by_cases hhd : at1 x 0 = (n : Int) / 16777216 ∧ at1 x 1 = (n : Int) / 65536 ∧ at1 x 2 = (n : Int) / 256 ∧ at1 x 3 = (n : Int) % 256 ∧ at1 x 31 = 165
  · obtain ⟨h0, h1, h2, h3, h31⟩ := hhd
    have hy := blkAt_of hx hn hcell h0 h1 h2 h3 h31
    have hbs : at1 x 4 % 128 = bsize x := by unfold bsize; omega
    by_cases hsz : at1 x 4 % 128 < 1 ∨ 26 < at1 x 4 % 128 ∨ (at1 x 4 < 128 ∧ at1 x 4 % 128 ≠ 26)
    · exact rb_bad2 g off c n (at1 x 4) w hc hc2 (by omega) (by omega) hy.y0 hy.y1 hy.y2 hy.y3 hy.y4 hy.y31 h4.1 h4.2 hsz
    · have hlo : 1 ≤ bsize x := by omega
      have hhi : bsize x ≤ 26 := by omega
      have hfu : 128 ≤ at1 x 4 ∨ bsize x = 26 := by omega
      by_cases hp : ∃ k0, 5 + bsize x ≤ k0 ∧ k0 < 31 ∧ at1 x k0 ≠ 0
      · obtain ⟨k0, p1, p2, p3⟩ := hp
        exact rb_pad g off c (bsize x) k0 n (at1 x 4) x w hc hc2 (by omega) (by omega) hy h4.1 h4.2 hbs hlo hhi hfu (Lib.hid hcell) p1 p2 (Lib.hid p3)
      · exfalso
        have : formed n x = true := form_mk hx hb ⟨by omega, by omega, by omega, by omega, h31, hlo, hhi, by
          rcases hfu with q | q
          · left; unfold blast; simpa using q
          · right; exact q, fun k p1 p2 => Decidable.byContradiction fun p3 => hp ⟨k, p1, p2, p3⟩⟩
        rw [this] at hf; cases hf
  · exact rb_bad1 g off c n (at1 x 0) (at1 x 1) (at1 x 2) (at1 x 3) (at1 x 31) w hc hc2 (by omega) (by omega) (by have := hcell 0 (by omega); exact this) (hcell 1 (by omega)) (hcell 2 (by omega)) (hcell 3 (by omega)) (hcell 31 (by omega)) hhd
end
end Go.Proofs.Ytabnlnhnefjebaa
