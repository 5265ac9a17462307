/-
  Chapter 41: Crash of the reference. The memory is that of the given program; no conditions.
-/
import Derived.Test.YtabnlnhnefjebaaRf6
import Derived.Test.YtabnlnhnefjebaaSt8
namespace Go.Proofs.Ytabnlnhnefjebaa
open Go.RowKit
set_option linter.unusedVariables false
set_option linter.unusedSimpArgs false
/-- bytes a .. b made zero -/
def zr (l : List Int) (a b : Nat) : List Int := l.take a ++ zeroN (b - a) ++ l.drop b
theorem zr_same (l : List Int) (a : Nat) : zr l a a = l := by simp [zr, zeroN]
theorem zr_len (l : List Int) (a b : Nat) (hab : a ≤ b) (hb : b ≤ l.length) : (zr l a b).length = l.length := by
  simp [zr, zeroN]; omega
theorem zr_next (l : List Int) (a b : Nat) (hab : a ≤ b) (hb : b < l.length) : (zr l a b).set b 0 = zr l a (b + 1) := by
  unfold zr
  rw [show b + 1 - a = (b - a) + 1 by omega, zeroN_succ]
  rw [List.drop_eq_getElem_cons hb]
  have e : (l.take a ++ zeroN (b - a)).length = b := by simp [zeroN]; omega
  rw [List.set_append_right _ _ (by omega), e, Nat.sub_self, List.set_cons_zero]
  simp only [List.append_assoc, List.singleton_append]
theorem u8s_zr (l : List Int) (a b : Nat) (hab : a ≤ b) : u8s (zr l a b) = splice (u8s l) a (u8s (zeroN (b - a))) := by
  unfold zr splice
  rw [u8s_len, zeroN_len, show a + (b - a) = b by omega]
  simp [u8s, List.map_take, List.map_drop]
theorem u8s_set (l : List Int) (j : Nat) (v : Int) : (u8s l).set j (.int .u8 v) = u8s (l.set j v) := by simp [u8s, List.map_set]
theorem Own5.stored {w wr : World} {g n c : Nat} {l : List Int} (h : Own5 w (some ⟨g, 0, none⟩) n c l wr) (j : Nat) (v : Int) : Own5 w (some ⟨g, 0, none⟩) n c (l.set j v) (wr.setCell ⟨g, j, none⟩ (.int .u8 v)) := by
  have h1 := h.row.stored j (.int .u8 v)
  refine ⟨by rw [← u8s_set]; exact h1.1, h.bel.trans ((Below.refl w.heap.size wr).grown h1.2 h.bel.size (fun k hk => ?_))⟩
  injection hk with hk
  rw [← hk]
  exact (h.row.lt g rfl).1
theorem Own5.addr {w wr : World} {A : Option Addr} {n c : Nat} {l : List Int} (h : Own5 w A n c l wr) (hn : 0 < n) : ∃ g, A = some ⟨g, 0, none⟩ := by
  obtain ⟨g, cap, hv, _, hlt⟩ := h.row.form hn
  injection hv with hA _ _
  exact ⟨g, hA⟩
theorem Own5.fit {w wr : World} {g n c : Nat} {l : List Int} (h : Own5 w (some ⟨g, 0, none⟩) n c l wr) (j : Nat) (hj : j < n) : ∃ v, wr.cell? ⟨g, j, none⟩ = some (.int .u8 v) := by
  have h1 := h.row.cellAt j (by omega)
  have h2 : (u8s l).length = n := by rw [u8s_len, h.len]
  rw [List.getElem?_eq_getElem (by omega)] at h1
  refine ⟨l[j]'(by rw [u8s_len] at h2; omega), ?_⟩
  rw [h1]
  simp [u8s]
theorem Own5.re {w wr : World} {A : Option Addr} {n c : Nat} {l l' : List Int} (h : Own5 w A n c l wr) (e : u8s l = u8s l') : Own5 w A n c l' wr := ⟨by rw [← e]; exact h.row, h.bel⟩
theorem rf_blocksOk {w : World} {q : Nat} {own : Option Nat} {rs : List (List Int)} {sy : Nat} {A : Option Addr} {c : Nat} {vs : List Value} (h : RfV w q own rs sy A c vs) : blocksOk (brecs 0 rs) := brecs_each rs (fun r hr => (h.ok r hr).1) 0
set_option maxHeartbeats 3200000 in
theorem rcrash_any (q : Nat) (own : Option Nat) (rs : List (List Int)) (sy : Nat) (which torn : Int) (w : World) (h : Rf w q own rs sy) (h0 : 0 ≤ which) (h1 : which ≤ 18446744073709551615) :
    Calls Try.prog 24 #[.pointer (some ⟨q, 0, none⟩), .int .u64 which, .int .i64 torn] w (NewRow 5 1 (needs rs * 32) (u8s (crashB (wbit which) (keepOf torn) sy (brecs 0 rs)).flatten) w) := by
  obtain ⟨A, c, vs, h⟩ := h
  have HS := Lib.hid h
  have x0 := h.box.cell 0
  have x1 := h.box.cell 1
  have hl := h.len
  have hsy := h.syn
  simp at x0 x1
  obtain ⟨n, Hn⟩ : ∃ n, Hid (rs.length = n) := ⟨_, Lib.hid rfl⟩
  rw [Hn.out] at x0
  have HBO := Lib.hid (rf_blocksOk h)
  obtain ⟨B, HB⟩ : ∃ B, Hid (B = brecs 0 rs) := ⟨_, Lib.hid rfl⟩
  rw [← HB.out] at HBO
  obtain ⟨N, HN⟩ : ∃ N, Hid (N = needs rs) := ⟨_, Lib.hid rfl⟩
  rw [← HN.out] at hl hsy ⊢
  have HBN : Hid (B.length = N) := Lib.hid (by rw [HB.out, HN.out, brecs_len])
  obtain ⟨n32, Hn32⟩ : ∃ n, Hid (n = N * 32) := ⟨_, Lib.hid rfl⟩
  have hn32 : n32 = N * 32 := Hn32.out
  rw [← Hn32.out]
  obtain ⟨T, HT⟩ : ∃ T, Hid (T = crashB (wbit which) (keepOf torn) sy B) := ⟨_, Lib.hid rfl⟩
  rw [← HB.out, ← HT.out]
  have hrl := h.rlen
  have HBy : Calls Try.prog 13 #[.slice A n c] w (NewRow 5 1 n32 (u8s B.flatten) w) := by
    have := rbytes_any A c n rs vs 0 w Hn (by rw [← Hn.out]; exact h.row) h.recs (by rw [← Hn.out]; omega) (fun r hr => ⟨(h.ok r hr).1, h.rbd r hr⟩) (by rw [← HN.out]; omega)
    rw [Hn32.out, HN.out, HB.out]
    exact this
  have HBY := Lib.hid HBy
  clear HBy h hrl
  go_enter Try.func24, Try.ntmps24
  go_upto_region 3 with (go_at_call 13; refine (HBY.out).mono ?_; rintro e w1 ⟨A3, c3, rfl, ho1, hbel1⟩; have Ho1 := Lib.hid ho1; have Hbel1 := Lib.hid hbel1; clear ho1 hbel1)
  have y0 : w1.cell? ⟨q, 0, none⟩ = some (.slice A n c) := by rw [← x0]; exact (Hbel1.out).cell (HS.out).box.lt
  have y1 : w1.cell? ⟨q, 1, none⟩ = some (.int .i64 sy) := by rw [← x1]; exact (Hbel1.out).cell (HS.out).box.lt
  obtain ⟨k0, Hk0⟩ : ∃ k0, Hid (k0 = keepOf torn) := ⟨_, Lib.hid rfl⟩
  go_upto_region 4 with (fail)
  clear y0 y1 x0
  go_loopw [8, 9] (fun fi i wr => ∃ (k j : Nat) (D : List (List Int)) (f : Bool), fi = .bool f ∧ (if f = true then k = k0 else k = 0) ∧ i = .int .i64 j ∧ j ≤ N ∧ CrL B T sy (wbit which) k j D ∧ Own5 w A3 n32 c3 (D ++ B.drop j).flatten wr) (fun _ i _ => N - (intOf i).toNat)
  case atStart =>
    refine ⟨k0, sy, B.take sy, true, rfl, rfl, rfl, hsy, ⟨?_, ?_, ?_, by rw [Hk0.out]; exact keepOf_le _, Nat.le_refl _⟩, ?_⟩
    · rw [HT.out, Nat.sub_self, Hk0.out]; rfl
    · rw [List.length_take, HBN.out]; omega
    · intro x hx; exact ((HBO.out) x (List.mem_of_mem_take hx)).1
    · rw [List.take_append_drop]; exact ⟨Ho1.out, Hbel1.out⟩
  case round =>
    obtain ⟨k, j, D, f, rfl, hf, rfl, hj, hC, hown⟩ := hrel
    have HC := Lib.hid hC
    have HOW := Lib.hid hown
    have HF := Lib.hid hf
    have hk := hC.k31
    have hsj := hC.sj
    clear hC hown Ho1 hf
    have y1 : wr.cell? ⟨q, 1, none⟩ = some (.int .i64 sy) := by rw [← x1]; exact ((HOW.out).bel).cell (HS.out).box.lt
    clear x1
    by_cases hlt : j < N
    · have hjB : j < B.length := by rw [HBN.out]; exact hlt
      have hdv : (j : Int) < (n32 : Int) / 32 := by omega
      cases hbit : wbit which (j - sy) with
      | true =>
        have HC2 := Lib.hid ((HC.out).keep HBO.out hjB hbit)
        have HOW2 : Hid (Own5 w A3 n32 c3 ((D ++ [B[j]]) ++ B.drop (j + 1)).flatten wr) := Lib.hid (by rw [CrL.row_keep hjB]; exact HOW.out)
        have hbit' : (bits .and .u64 (which / 2 ^ ((j - sy) % 64)) 1 == 1) = true := hbit
        clear hbit hn32
        go_wp2
        go_roundw
        case rel => exact ⟨k, j + 1, _, f, rfl, HF.out, by go_num, by omega, HC2.out, HOW2.out⟩
        case measure => simp [intOf]; omega
      | false =>
        have HC2 := Lib.hid ((HC.out).lose HBO.out hjB hbit)
        have HSP := Lib.hid ((HC.out).row_lose HBO.out hjB)
        have HLL : Hid ((D ++ B.drop j).flatten.length = n32) := Lib.hid (HOW.out).len
        have hbit' : (bits .and .u64 (which / 2 ^ ((j - sy) % 64)) 1 == 1) = false := hbit
        clear hbit
        obtain ⟨g, rfl⟩ := (HOW.out).addr (by omega)
        obtain ⟨L, HL⟩ : ∃ L, Hid (L = (D ++ B.drop j).flatten) := ⟨_, Lib.hid rfl⟩
        rw [← HL.out] at HOW HSP HLL
        cases f with
        | false =>
          go_upto_region 12 with (first | (refine wpList_min2 rfl (.tmp 43) _ _ rfl .i64 torn 31 rfl rfl ?_; intro k1 Hk1) | (refine wpList_max2 rfl (.tmp 44) _ _ rfl .i64 k1 0 rfl rfl ?_; intro k2 Hk2))
          first
            | (obtain rfl : k2 = (k : Int) := by rw [Hk2.out, Hk1.out, HF.out, Hk0.out]; unfold keepOf; omega)
            | (obtain rfl : k = 0 := HF.out)
          go_upto_region 13 with (fail)
          go_loopw [12] (fun i wr => ∃ (m : Nat), m ≤ 32 ∧ 0 ≤ m ∧ i = .int .i64 m ∧ Own5 w (some ⟨g, 0, none⟩) n32 c3 (zr L (j * 32 + 0) (j * 32 + m)) wr) (fun i _ => 32 - (intOf i).toNat)
          case atStart => exact ⟨0, by omega, Nat.le_refl _, rfl, by rw [zr_same]; exact HOW.out⟩
          case round =>
            clear HOW y1
            obtain ⟨m, hm, hkm, rfl, hown⟩ := hrel
            have HOW := Lib.hid hown
            clear hown
            by_cases hlt2 : m < 32
            · obtain ⟨old, hold⟩ := (HOW.out).fit (j * 32 + m) (by omega)
              have hfz := (HOW.out).row.frozenAt (j * 32 + m)
              have HO2 : Hid (Own5 w (some ⟨g, 0, none⟩) n32 c3 (zr L (j * 32 + 0) (j * 32 + (m + 1))) (wr.setCell ⟨g, j * 32 + m, none⟩ (.int .u8 0))) := Lib.hid (by
                have := (HOW.out).stored (j * 32 + m) 0
                rw [zr_next _ _ _ (by omega) (by rw [HLL.out]; omega)] at this
                exact this)
              have hx1 : (0 : Int) ≤ (j : Int) * 32 + (m : Int) := by omega
              have hx2 : (j : Int) * 32 + (m : Int) < (n32 : Int) := by omega
              have hx3 : ((j : Int) * 32 + (m : Int)).toNat = j * 32 + m := by omega
              clear hn32 HOW
              go_wp2
              go_roundw
              case rel => exact ⟨m + 1, by omega, by omega, by go_num, HO2.out⟩
              case measure => simp [intOf]; omega
            · obtain rfl : m = 32 := by omega
              have HO2 : Hid (Own5 w (some ⟨g, 0, none⟩) n32 c3 ((D ++ [B[j].take 0 ++ List.replicate (32 - 0) 0]) ++ B.drop (j + 1)).flatten wr) := Lib.hid (by
                refine (HOW.out).re ?_
                rw [u8s_zr _ _ _ (by omega), ← HSP.out]
                congr 3
                omega)
              clear HOW
              go_wp2
              go_roundw
              case rel => exact ⟨0, j + 1, _, false, rfl, rfl, by go_num, by omega, HC2.out, HO2.out⟩
              case measure => simp [intOf]; omega
        | true =>
          go_upto_region 12 with (first | (refine wpList_min2 rfl (.tmp 43) _ _ rfl .i64 torn 31 rfl rfl ?_; intro k1 Hk1) | (refine wpList_max2 rfl (.tmp 44) _ _ rfl .i64 k1 0 rfl rfl ?_; intro k2 Hk2))
          first
            | (obtain rfl : k2 = (k : Int) := by rw [Hk2.out, Hk1.out, HF.out, Hk0.out]; unfold keepOf; omega)
            | (obtain rfl : k = 0 := HF.out)
          go_upto_region 13 with (fail)
          go_loopw [12] (fun i wr => ∃ (m : Nat), m ≤ 32 ∧ k ≤ m ∧ i = .int .i64 m ∧ Own5 w (some ⟨g, 0, none⟩) n32 c3 (zr L (j * 32 + k) (j * 32 + m)) wr) (fun i _ => 32 - (intOf i).toNat)
          case atStart => exact ⟨k, by omega, Nat.le_refl _, rfl, by rw [zr_same]; exact HOW.out⟩
          case round =>
            clear HOW y1
            obtain ⟨m, hm, hkm, rfl, hown⟩ := hrel
            have HOW := Lib.hid hown
            clear hown
            by_cases hlt2 : m < 32
            · obtain ⟨old, hold⟩ := (HOW.out).fit (j * 32 + m) (by omega)
              have hfz := (HOW.out).row.frozenAt (j * 32 + m)
              have HO2 : Hid (Own5 w (some ⟨g, 0, none⟩) n32 c3 (zr L (j * 32 + k) (j * 32 + (m + 1))) (wr.setCell ⟨g, j * 32 + m, none⟩ (.int .u8 0))) := Lib.hid (by
                have := (HOW.out).stored (j * 32 + m) 0
                rw [zr_next _ _ _ (by omega) (by rw [HLL.out]; omega)] at this
                exact this)
              have hx1 : (0 : Int) ≤ (j : Int) * 32 + (m : Int) := by omega
              have hx2 : (j : Int) * 32 + (m : Int) < (n32 : Int) := by omega
              have hx3 : ((j : Int) * 32 + (m : Int)).toNat = j * 32 + m := by omega
              clear hn32 HOW
              go_wp2
              go_roundw
              case rel => exact ⟨m + 1, by omega, by omega, by go_num, HO2.out⟩
              case measure => simp [intOf]; omega
            · obtain rfl : m = 32 := by omega
              have HO2 : Hid (Own5 w (some ⟨g, 0, none⟩) n32 c3 ((D ++ [B[j].take k ++ List.replicate (32 - k) 0]) ++ B.drop (j + 1)).flatten wr) := Lib.hid (by
                refine (HOW.out).re ?_
                rw [u8s_zr _ _ _ (by omega), ← HSP.out]
                congr 3
                omega)
              clear HOW
              go_wp2
              go_roundw
              case rel => exact ⟨0, j + 1, _, false, rfl, rfl, by go_num, by omega, HC2.out, HO2.out⟩
              case measure => simp [intOf]; omega
    · obtain rfl : j = N := by omega
      have HE : Hid (Own5 w A3 n32 c3 T.flatten wr) := Lib.hid (by
        have h1 := HOW.out
        have h2 := (HC.out).tot
        rw [List.drop_of_length_le (by rw [HBN.out]; exact Nat.le_refl _), List.append_nil] at h1
        rw [List.drop_of_length_le (by rw [HBN.out]; exact Nat.le_refl _), crashL, List.append_nil] at h2
        rw [← h2]
        exact h1)
      have hdv : ¬ (j : Int) < (n32 : Int) / 32 := by omega
      clear hn32
      go_wp2
      go_ret
      exact ⟨A3, c3, by rw [Hn32.out]; rfl, (HE.out).row, (HE.out).bel⟩
end Go.Proofs.Ytabnlnhnefjebaa
