/-
  Chapter 41: the walk of StoreReads. The memory is that of the given program; no conditions.
-/
import Derived.Test.YtabnlnhnefjebaaLw3
namespace Go.Proofs.Ytabnlnhnefjebaa
open Go.RowKit
set_option linter.unusedVariables false
set_option linter.unusedSimpArgs false
theorem one_own {w w2 : World} {g15 n : Nat} (hg : Hid (g15 = (w.alloc (.cells #[.int .u8 7] 5)).heap.size)) (hb : Hid (Blk w2 g15 5 (u8s (zeroN n)).toArray)) (hbel : Hid (Below (w.alloc (.cells #[.int .u8 7] 5)).heap.size (w.alloc (.cells #[.int .u8 7] 5)) w2)) (hn : n ≤ 100000) :
    Own23 w ((w2.alloc (.cells #[.int .u8 8] 5)).alloc (.cells #[.slice (some ⟨w.heap.size, 0, none⟩) 1 1, .slice (some ⟨g15, 0, none⟩) n n, .slice (some ⟨w2.heap.size, 0, none⟩) 1 1] 23)) (some ⟨w2.heap.size + 1, 0, none⟩) 3 3 [[7], zeroN n, [8]] [.slice (some ⟨w.heap.size, 0, none⟩) 1 1, .slice (some ⟨g15, 0, none⟩) n n, .slice (some ⟨w2.heap.size, 0, none⟩) 1 1] := by
  have hbel' : Below w.heap.size w w2 := ((Below.refl _ _).alloc (Nat.le_refl _) _).trans ((hbel.out).mono (by simp))
  have hsz : w.heap.size + 1 ≤ w2.heap.size := by have := (hbel.out).size; simpa using this
  have b7 : Blk w2 w.heap.size 5 (u8s [7]).toArray := (Blk.new w 5 #[.int .u8 7]).below hbel.out (by simp)
  have b8 : Blk (w2.alloc (.cells #[.int .u8 8] 5)) w2.heap.size 5 (u8s [8]).toArray := Blk.new w2 5 #[.int .u8 8]
  have hg' : w.heap.size ≤ g15 := by rw [hg.out]; simp
  have mk : ∀ (W : World) (g : Nat) (r : List Int), r.length ≤ 100000 → w.heap.size ≤ g → Blk W g 5 (u8s r).toArray → W.ownsRow w.heap.size 5 1 (.slice (some ⟨g, 0, none⟩) r.length r.length) r.length (u8s r) := fun W g r h1 h2 h3 => by
    refine ⟨by rw [u8s_len, Nat.mul_one], .inr ⟨g, r.length, (u8s r).toArray, rfl, h2, h3, Nat.le_refl _, by unfold maxLen; omega, by simp [u8s_len], ?_⟩⟩
    rw [List.take_of_length_le (by simp [u8s_len])]
  have r7 := mk _ _ [7] (by simp) (Nat.le_refl _) ((b7.alloc (.cells #[.int .u8 8] 5)).alloc (.cells #[.slice (some ⟨w.heap.size, 0, none⟩) 1 1, .slice (some ⟨g15, 0, none⟩) n n, .slice (some ⟨w2.heap.size, 0, none⟩) 1 1] 23))
  have rz := mk _ _ (zeroN n) (by rw [zeroN_len]; exact hn) hg' (((hb.out).alloc (.cells #[.int .u8 8] 5)).alloc (.cells #[.slice (some ⟨w.heap.size, 0, none⟩) 1 1, .slice (some ⟨g15, 0, none⟩) n n, .slice (some ⟨w2.heap.size, 0, none⟩) 1 1] 23))
  have r8 := mk _ _ [8] (by simp) (by omega) (b8.alloc (.cells #[.slice (some ⟨w.heap.size, 0, none⟩) 1 1, .slice (some ⟨g15, 0, none⟩) n n, .slice (some ⟨w2.heap.size, 0, none⟩) 1 1] 23))
  refine ⟨?_, ⟨rfl, fun i hi => ?_⟩, rfl, ?_⟩
  · have hrow := World.ownsRow_lit (base := w.heap.size) (e := 23) (size := 1) (w2.alloc (.cells #[.int .u8 8] 5)) #[.slice (some ⟨w.heap.size, 0, none⟩) 1 1, .slice (some ⟨g15, 0, none⟩) n n, .slice (some ⟨w2.heap.size, 0, none⟩) 1 1] 3 (by simp; omega) (by simp [maxLen]) rfl
    simpa using hrow
  · rcases (show i = 0 ∨ i = 1 ∨ i = 2 by simp at hi; omega) with rfl | rfl | rfl
    · exact ⟨_, _, rfl, r7⟩
    · refine ⟨some ⟨g15, 0, none⟩, n, ?_, ?_⟩
      · simp [zeroN_len]
      · have := rz
        simp only [zeroN_len] at this
        simpa [zeroN_len] using this
    · exact ⟨_, _, rfl, r8⟩
  · exact (hbel'.alloc hbel'.size _).alloc (by simp; omega) _
theorem bel_al (w : World) (o : Obj) : Below w.heap.size w (w.alloc o) := (Below.refl _ _).alloc (Nat.le_refl _) _
theorem seq1 {a b c : World} (h1 : Hid (Below a.heap.size a b)) (h2 : Hid (Below b.heap.size b c)) : Below a.heap.size a c := bel_more h1.out h2
theorem seq2 {a b c d : World} (h1 : Hid (Below a.heap.size a b)) (h2 : Hid (Below b.heap.size b c)) (h3 : Hid (Below c.heap.size c d)) : Below a.heap.size a d := bel_more (bel_more h1.out h2) h3
theorem len_at {w : World} {p : Nat} {own : Option Nat} {B : List (List Int)} {sy n : Nat} (h : St w p own B sy) (hn : Hid (ends B = n)) : Calls Try.prog 16 #[.pointer (some ⟨p, 0, none⟩)] w (RetI n w) := by
  rw [← hn.out]; exact len_any p own B sy w h
theorem ends_brecs_all (rs : List (List Int)) (h : ∀ r ∈ rs, 1 ≤ r.length) : ends (brecs 0 rs) = rs.length := by
  have := ends_brecs rs h 0 (needs rs)
  rw [List.take_of_length_le (by rw [brecs_len]; omega), dur_all rs _ (Nat.le_refl _)] at this
  exact this
set_option maxRecDepth 100000 in
set_option maxHeartbeats 12800000 in
theorem storeReads_walk (size more : Int) (w : World) (hs : InR size) (hp : InR more) : Calls Try.prog 3 #[.int .i64 size, .int .i64 more] w (RetB true w) := by
  obtain ⟨k30, Hk30⟩ : ∃ k : Nat, Hid ((k : Int) = size % 30) := ⟨(size % 30).toNat, Lib.hid (by omega)⟩
  have hk30 : k30 < 30 := by have := Hk30.out; omega
  have HM1 : Hid (∀ w, Calls Try.prog 11 #[.int .i64 size, .int .i64 30] w fun e w' => e = .returned (.int .i64 k30) ∧ w = w') := Lib.hid (fun w => by rw [Hk30.out]; exact mod_any size 30 w hs.1 hs.2 (by decide) (by decide))
  obtain ⟨k3, Hk3⟩ : ∃ k3 : Nat, Hid ((k3 : Int) = more % 3) := ⟨(more % 3).toNat, Lib.hid (by omega)⟩
  have hk3 : k3 < 3 := by have := Hk3.out; omega
  have HM2 : Hid (∀ w, Calls Try.prog 11 #[.int .i64 more, .int .i64 3] w fun e w' => e = .returned (.int .i64 k3) ∧ w = w') := Lib.hid (fun w => by rw [Hk3.out]; exact mod_any more 3 w hp.1 hp.2 (by decide) (by decide))
  obtain ⟨n, Hn⟩ : ∃ n : Nat, Hid ((4095 : Int) + (k30 : Int) = (n : Int)) := ⟨4095 + k30, Lib.hid (by omega)⟩
  have hn1 : 4095 ≤ n := by have := Hn.out; omega
  have hn2 : n ≤ 4124 := by have := Hn.out; omega
  have HVb : Hid (n ≤ 100000000) := Lib.hid (by omega)
  clear hs hp
  obtain ⟨i23, hi23, hz230, hz231, hz232⟩ := info_parts row23
  have HI23 := Lib.hid hi23
  have HZ230 := Lib.hid hz230
  have HZ231 := Lib.hid hz231
  have HZ232 := Lib.hid hz232
  clear hi23 hz230 hz231 hz232
  go_enter Try.func3, Try.ntmps3
  go_upto_region 2 with (go_at_call 11; refine (HM1.out _).mono ?_; rintro e w' ⟨rfl, rfl⟩)
  rw [Hn.out]
  go_upto_region 3 with (refine wpList_make23 rfl (.tmp 14) rfl n (n : Int) rfl (Lib.hid rfl) HVb ?_; intro g15 w2 Hg15 Hb15 Hbel15)
  have HO1 := Lib.hid (one_own Hg15 Hb15 Hbel15 (by omega))
  obtain ⟨nd, Hnd⟩ : ∃ nd, Hid (needs [[7], zeroN n, [8]] * 32 = nd) := ⟨_, Lib.hid rfl⟩
  obtain ⟨bs, Hbs⟩ : ∃ bs, Hid (bs = bytes [[7], zeroN n, [8]]) := ⟨_, Lib.hid rfl⟩
  obtain ⟨ra, Hra⟩ : ∃ ra, Hid (opn bs = ra) := ⟨_, Lib.hid rfl⟩
  have Hral : Hid ((n ≤ 4096 → ra.length = 3) ∧ (4096 < n → ra.length = 1) ∧ ∀ r ∈ ra, 1 ≤ r.length) := Lib.hid (by
    rw [← Hra.out, Hbs.out]
    refine ⟨fun h => by rw [opn_one n (by omega) h]; rfl, fun h => by rw [opn_one_long n h]; rfl, ?_⟩
    by_cases h : n ≤ 4096
    · rw [opn_one n (by omega) h]
      exact fun r hr => (one_ok n (by omega) h r hr).2.1
    · rw [opn_one_long n (by omega)]
      intro r hr
      simp at hr
      rw [hr]
      simp)
  have HBB : Hid (byteOk bs) := Lib.hid (by
    rw [Hbs.out]
    refine bytes_okB _ (fun r hr => ?_)
    simp at hr
    rcases hr with rfl | rfl | rfl
    · exact fun x hx => by simp at hx; omega
    · exact zeroN_ok n
    · exact fun x hx => by simp at hx; omega)
  have HRB : Hid (∀ r ∈ [[7], zeroN n, [8]], byteOk r ∧ r.length ≤ 100000) := Lib.hid (fun r hr => by
    simp at hr
    rcases hr with rfl | rfl | rfl
    · exact ⟨fun x hx => by simp at hx; omega, by simp⟩
    · exact ⟨zeroN_ok n, by rw [zeroN_len]; omega⟩
    · exact ⟨fun x hx => by simp at hx; omega, by simp⟩)
  have HNB : Hid (needs [[7], zeroN n, [8]] ≤ 20000) := Lib.hid (by rw [one_needs]; omega)
  have HBel2 := Lib.hid (HO1.out).bel
  clear Hb15 Hbel15 Hg15
  go_upto_region 4 with (first
    | (go_at_call 13; refine ((HO1.out).bytes (by decide) HRB.out HNB.out Hnd).mono ?_; rw [← Hbs.out]; rintro e w4 ⟨A4, c4, rfl, ho4, hb4⟩; have Ho4 := Lib.hid ho4; have Hb4 := Lib.hid (bel_more HBel2.out (Lib.hid hb4)); clear ho4 hb4)
    | (go_at_call 12; refine (open_row (w := w) Ho4.out HBB.out).mono ?_; intro e w5 hop; obtain ⟨p7, own7, rfl, hF5, hb5⟩ := openP Hra.out Hb4.out hop; have HF5 := Lib.hid hF5; clear hop hF5 hb5))
  clear HO1 Ho4 Hb4 HBel2 HRB HNB HBB
  go_wp2
  have H96 : Hid ((4096 : Int) = ((4096 : Nat) : Int)) := Lib.hid rfl
  have H96b : Hid (4096 ≤ 100000000) := Lib.hid (by decide)
  have Hmok : Hid (∀ j i r, r ∈ many j i → byteOk r ∧ r.length ≤ 100000) := Lib.hid (fun j i r hr => ⟨(many_ok j i r hr).1, by have := (many_ok j i r hr).2.2; omega⟩)
  go_loopw [8] (fun v wr => ∃ (j : Nat) (A : Option Addr) (c : Nat) (vs : List Value), v = .slice A j c ∧ j ≤ 103 ∧ Own23 w wr A c j (many j 0) vs ∧ FSt w wr p7 own7 (brecs 0 ra) (needs ra)) (fun v _ => match v with | .slice _ m _ => 103 - m | _ => 0)
  case atStart => exact ⟨0, none, 0, [], rfl, by omega, Own23.nil (HF5.out).bel, HF5.out⟩
  case round =>
    obtain ⟨j, A, c, vs, rfl, hj, hO, hF⟩ := hrel
    have HO := Lib.hid hO
    have HF := Lib.hid hF
    clear hO hF HF5
    have HNd : Hid (needs (many j 0) = j * 158) := Lib.hid (by rw [many_needs]; rfl)
    have HBk : Hid (Calls Try.prog 14 #[.slice A j c] wr fun e w' => e = .returned (.int .i64 ((j * 158 : Nat) : Int)) ∧ wr = w') := Lib.hid ((HO.out).blocks (by omega) (fun r hr => (Hmok.out j 0 r hr).2) HNd)
    by_cases hlt : j < 103
    · have ht : ((j * 158 : Nat) : Int) < 16224 := by omega
      have ht' : (j : Int) * 158 < 16224 := by omega
      go_upto_region 6 with (go_at_call 14; refine (HBk.out).mono ?_; rintro e w' ⟨rfl, rfl⟩)
      go_wp2_with (first
        | (refine wpList_make23 rfl (.const (.int .i64 4096)) rfl 4096 _ rfl H96 H96b ?_; intro g25 w3 Hg25 Hb25 Hbel25)
        | (at_builtin; refine wpList_app rfl (.tmp 24) (.tmp 26) 24 rfl w.heap.size 23 i23 (.slice none 0 0) 1 24 und24 HI23.out HZ230.out HZ231.out HZ232.out rfl (by decide) _ j vs rfl (((HO.out).below Hbel25.out).row.alloc _) _ _ _ [.slice (some ⟨g25, 0, none⟩) 4096 4096] rfl (one_src w3 (.slice (some ⟨g25, 0, none⟩) 4096 4096) 23) (one_cell _ _ _) ?_ ?_ ?_ ?_))
      · unfold maxLen; omega
      · omega
      · have := ((HO.out).below Hbel25.out).bel.size; simp; omega
      intro A5 c5 w5 Ho5 Hg5 Hx5
      have HO5 : Hid (Own23 w w5 A5 c5 (j + 1) (many (j + 1) 0) (vs ++ [.slice (some ⟨g25, 0, none⟩) 4096 4096])) := Lib.hid (by
        rw [← many_j]
        exact ((HO.out).below Hbel25.out).add Hb25.out (zeroN_len _) (by decide) (by rw [Hg25.out]; exact (HO.out).bel.size) Ho5 Hg5)
      have HF5 := Lib.hid (((HO.out).below Hbel25.out).chg Hg5 ((HF.out).below Hbel25.out) (HO5.out).bel)
      clear Ho5 Hg5 Hx5 Hb25 Hbel25 HO HF HBk
      go_wp2
      go_roundw
      case rel => exact ⟨j + 1, A5, c5, _, rfl, by omega, HO5.out, HF5.out⟩
      case measure => show 103 - (j + 1) < 103 - j; omega
    · obtain rfl : j = 103 := by omega
      go_upto_region 7 with (go_at_call 14; refine (HBk.out).mono ?_; rintro e w' ⟨rfl, rfl⟩)
      clear HBk HNd
      go_loopw [8] (fun v wr => ∃ (i nn : Nat) (A : Option Addr) (c : Nat) (vs : List Value), nn = 103 + i ∧ v = .slice A nn c ∧ i ≤ 109 + k3 ∧ Own23 w wr A c nn (many 103 i) vs ∧ FSt w wr p7 own7 (brecs 0 ra) (needs ra)) (fun v _ => match v with | .slice _ m _ => 400 - m | _ => 0)
      case atStart => exact ⟨0, 103, A, c, vs, rfl, rfl, by omega, HO.out, HF.out⟩
      case round =>
        clear HO HF
        obtain ⟨i, nn, A, c, vs, hnn, rfl, hi, hO, hF⟩ := hrel
        have HNN := Lib.hid hnn
        have hnnb : nn ≤ 400 := by omega
        clear hnn
        have HO := Lib.hid hO
        have HF := Lib.hid hF
        clear hO hF
        have HNd : Hid (needs (many 103 i) = 16274 + i) := Lib.hid (by rw [many_needs])
        have HBk : Hid (Calls Try.prog 14 #[.slice A nn c] wr fun e w' => e = .returned (.int .i64 ((16274 + i : Nat) : Int)) ∧ wr = w') := Lib.hid ((HO.out).blocks (by omega) (fun r hr => (Hmok.out 103 i r hr).2) HNd)
        by_cases hlt : i < 109 + k3
        · have ht : (16274 : Int) + (i : Int) < 16383 + (k3 : Int) := by omega
          have HSr : Hid (Src ((wr.alloc (.cells #[.int .u8 1] 5)).alloc (.cells #[.slice (some ⟨wr.heap.size, 0, none⟩) 1 1] 23)) 1 (some ⟨wr.heap.size + 1, 0, none⟩) 1 [.slice (some ⟨wr.heap.size, 0, none⟩) 1 1]) := Lib.hid (by simpa using one_src (wr.alloc (.cells #[.int .u8 1] 5)) (.slice (some ⟨wr.heap.size, 0, none⟩) 1 1) 23)
          have HRw : Hid (((wr.alloc (.cells #[.int .u8 1] 5)).alloc (.cells #[.slice (some ⟨wr.heap.size, 0, none⟩) 1 1] 23)).ownsRow w.heap.size 23 1 (.slice A nn c) nn vs) := Lib.hid (((HO.out).row.alloc _).alloc _)
          have ht2 : ((16274 + i : Nat) : Int) < 16383 + (k3 : Int) := by omega
          go_wp2_with (first
            | (go_at_call 14; refine (HBk.out).mono ?_; rintro e w' ⟨rfl, rfl⟩)
            | (go_at_call 11; refine (HM2.out _).mono ?_; rintro e w' ⟨rfl, rfl⟩)
            | (at_builtin; refine wpList_app rfl (.tmp 34) (.tmp 36) 24 rfl w.heap.size 23 i23 (.slice none 0 0) 1 24 und24 HI23.out HZ230.out HZ231.out HZ232.out rfl (by decide) _ nn vs rfl HRw.out _ _ _ [.slice (some ⟨wr.heap.size, 0, none⟩) 1 1] rfl HSr.out (one_cell _ _ _) ?_ ?_ ?_ ?_))
          · unfold maxLen; omega
          · omega
          · have := (HO.out).bel.size; simp; omega
          intro A5 c5 w5 Ho5 Hg5 Hx5
          have HO5 : Hid (Own23 w w5 A5 c5 (nn + 1) (many 103 (i + 1)) (vs ++ [.slice (some ⟨wr.heap.size, 0, none⟩) 1 1])) := Lib.hid (by
            rw [← many_i]
            exact ((HO.out).below (bel_al wr _)).add (r := [1]) (Blk.new wr _ _) rfl (by decide) (HO.out).bel.size Ho5 Hg5)
          have HF5 := Lib.hid (((HO.out).below (bel_al wr _)).chg Hg5 ((HF.out).below (bel_al wr _)) (HO5.out).bel)
          clear Ho5 Hg5 Hx5 HO HF HBk
          go_wp2
          go_roundw
          case rel => exact ⟨i + 1, nn + 1, A5, c5, _, by rw [HNN.out]; omega, rfl, by omega, HO5.out, HF5.out⟩
          case measure => show 400 - (nn + 1) < 400 - nn; have := HNN.out; omega
        · obtain rfl : i = 109 + k3 := by omega
          obtain rfl : nn = 103 + (109 + k3) := HNN.out
          clear HNN
          rcases (show k3 = 0 ∨ k3 = 1 ∨ k3 = 2 by omega) with rfl | rfl | rfl
          · have HNd2 : Hid (needs (many 103 109) * 32 = 524256) := Lib.hid (by rw [many_needs])
            have HNd3 : Hid (needs (many 103 109) = 16383) := Lib.hid (by rw [many_needs])
            obtain ⟨bt, Hbt⟩ : ∃ bt, Hid (bt = bytes (many 103 109)) := ⟨_, Lib.hid rfl⟩
            have HBo : Hid (byteOk bt) := Lib.hid (by rw [Hbt.out]; exact bytes_okB _ (fun r hr => (Hmok.out 103 109 r hr).1))
            obtain ⟨rb, Hrb⟩ : ∃ rb, Hid (rb = many 103 109) := ⟨_, Lib.hid rfl⟩
            have HOp : Hid (opn bt = rb) := Lib.hid (by rw [Hbt.out, Hrb.out]; exact opn_many 109 (by decide))
            have HBl : Hid ((brecs 0 rb).length = 16383) := Lib.hid (by rw [brecs_len, Hrb.out, many_needs])
            have HEn : Hid (ends (brecs 0 rb) = 212) := Lib.hid (by rw [ends_brecs_all rb (by rw [Hrb.out]; exact fun r hr => (many_ok _ _ r hr).2.1), Hrb.out, many_len])
            have HBk2 : Hid (∀ w9, Below wr.heap.size wr w9 → Calls Try.prog 14 #[.slice A 212 c] w9 fun e w' => e = .returned (.int .i64 16383) ∧ w9 = w') := Lib.hid (fun w9 hb => ((HO.out).below hb).blocks (by decide) (fun r hr => (Hmok.out 103 109 r hr).2) HNd3)
            go_upto_region 10 with (first
              | (go_at_call 14; refine (HBk.out).mono ?_; rintro e w' ⟨rfl, rfl⟩)
              | (go_at_call 11; refine (HM2.out _).mono ?_; rintro e w' ⟨rfl, rfl⟩)
              | (go_at_call 13; refine ((HO.out).bytes (by decide) (Hmok.out 103 109) (by rw [HNd3.out]; decide) HNd2).mono ?_; rw [← Hbt.out]; rintro e w4' ⟨A4', c4', rfl, ho4, hb4⟩; have Ho4 := Lib.hid ho4; have Hb4 := Lib.hid hb4; clear ho4 hb4)
              | (go_at_call 12; refine (open_row (w := w) Ho4.out HBo.out).mono ?_; intro e w5' hop; obtain ⟨p9, own9, rfl, hF5, hb5⟩ := openP HOp.out (bel_more (HO.out).bel Hb4) hop; have HF9 := Lib.hid hF5; have Hb5 := Lib.hid hb5; clear hop hF5 hb5))
            have HF7 := Lib.hid (((HF.out).below Hb4.out).below Hb5.out)
            have Hbr := Lib.hid (bel_more Hb4.out Hb5)
            clear Ho4 Hb4 Hb5 HBo HOp HBk HO HF
            by_cases hn4 : 4096 < n
            · have hn4' : 4096 < (n : Int) := by omega
              have HEa : Hid (ends (brecs 0 ra) = 1) := Lib.hid (by rw [ends_brecs_all ra (Hral.out).2.2]; exact (Hral.out).2.1 hn4)
              go_wp2_with (first
                | (go_at_call 15; refine (blocks_le (HF9.out).st HBl).mono ?_; rintro e w11 ⟨rfl, hb11⟩; have Hb11 := Lib.hid hb11; clear hb11)
                | (go_at_call 14; (with_reducible refine (HBk2.out _ (seq2 Hbr Hb11 Hb12)).mono ?_); rintro e w' ⟨rfl, rfl⟩)
                | (go_at_call 14; (with_reducible refine (HBk2.out _ (seq1 Hbr Hb11)).mono ?_); rintro e w' ⟨rfl, rfl⟩)
                | (go_at_call 16; (with_reducible refine (len_at ((HF9.out).below Hb11.out).st HEn).mono ?_); rintro e w12 ⟨rfl, hb12⟩; have Hb12 := Lib.hid hb12; clear hb12)
                | (go_at_call 16; (with_reducible refine (len_at (((HF7.out).below Hb11.out).below Hb12.out).st HEa).mono ?_); rintro e w13 ⟨rfl, hb13⟩; have Hb13 := Lib.hid hb13; clear hb13)
                | (go_at_call 17; refine (awake_any _).mono ?_; rintro e w14 ⟨rfl, hb14⟩; have Hb14 := Lib.hid hb14; clear hb14))
              go_ret
              exact ⟨rfl, bel_more (bel_more (bel_more (bel_more (HF7.out).bel Hb11) Hb12) Hb13) Hb14⟩
            · have hn4' : ¬ 4096 < (n : Int) := by omega
              have HEa : Hid (ends (brecs 0 ra) = 3) := Lib.hid (by rw [ends_brecs_all ra (Hral.out).2.2]; exact (Hral.out).1 (by omega))
              go_wp2_with (first
                | (go_at_call 15; refine (blocks_le (HF9.out).st HBl).mono ?_; rintro e w11 ⟨rfl, hb11⟩; have Hb11 := Lib.hid hb11; clear hb11)
                | (go_at_call 14; (with_reducible refine (HBk2.out _ (seq2 Hbr Hb11 Hb12)).mono ?_); rintro e w' ⟨rfl, rfl⟩)
                | (go_at_call 14; (with_reducible refine (HBk2.out _ (seq1 Hbr Hb11)).mono ?_); rintro e w' ⟨rfl, rfl⟩)
                | (go_at_call 16; (with_reducible refine (len_at ((HF9.out).below Hb11.out).st HEn).mono ?_); rintro e w12 ⟨rfl, hb12⟩; have Hb12 := Lib.hid hb12; clear hb12)
                | (go_at_call 16; (with_reducible refine (len_at (((HF7.out).below Hb11.out).below Hb12.out).st HEa).mono ?_); rintro e w13 ⟨rfl, hb13⟩; have Hb13 := Lib.hid hb13; clear hb13)
                | (go_at_call 17; refine (awake_any _).mono ?_; rintro e w14 ⟨rfl, hb14⟩; have Hb14 := Lib.hid hb14; clear hb14))
              go_ret
              exact ⟨rfl, bel_more (bel_more (bel_more (bel_more (HF7.out).bel Hb11) Hb12) Hb13) Hb14⟩
          · have HNd2 : Hid (needs (many 103 110) * 32 = 524288) := Lib.hid (by rw [many_needs])
            have HNd3 : Hid (needs (many 103 110) = 16384) := Lib.hid (by rw [many_needs])
            obtain ⟨bt, Hbt⟩ : ∃ bt, Hid (bt = bytes (many 103 110)) := ⟨_, Lib.hid rfl⟩
            have HBo : Hid (byteOk bt) := Lib.hid (by rw [Hbt.out]; exact bytes_okB _ (fun r hr => (Hmok.out 103 110 r hr).1))
            obtain ⟨rb, Hrb⟩ : ∃ rb, Hid (rb = many 103 110) := ⟨_, Lib.hid rfl⟩
            have HOp : Hid (opn bt = rb) := Lib.hid (by rw [Hbt.out, Hrb.out]; exact opn_many 110 (by decide))
            have HBl : Hid ((brecs 0 rb).length = 16384) := Lib.hid (by rw [brecs_len, Hrb.out, many_needs])
            have HEn : Hid (ends (brecs 0 rb) = 213) := Lib.hid (by rw [ends_brecs_all rb (by rw [Hrb.out]; exact fun r hr => (many_ok _ _ r hr).2.1), Hrb.out, many_len])
            have HBk2 : Hid (∀ w9, Below wr.heap.size wr w9 → Calls Try.prog 14 #[.slice A 213 c] w9 fun e w' => e = .returned (.int .i64 16384) ∧ w9 = w') := Lib.hid (fun w9 hb => ((HO.out).below hb).blocks (by decide) (fun r hr => (Hmok.out 103 110 r hr).2) HNd3)
            go_upto_region 10 with (first
              | (go_at_call 14; refine (HBk.out).mono ?_; rintro e w' ⟨rfl, rfl⟩)
              | (go_at_call 11; refine (HM2.out _).mono ?_; rintro e w' ⟨rfl, rfl⟩)
              | (go_at_call 13; refine ((HO.out).bytes (by decide) (Hmok.out 103 110) (by rw [HNd3.out]; decide) HNd2).mono ?_; rw [← Hbt.out]; rintro e w4' ⟨A4', c4', rfl, ho4, hb4⟩; have Ho4 := Lib.hid ho4; have Hb4 := Lib.hid hb4; clear ho4 hb4)
              | (go_at_call 12; refine (open_row (w := w) Ho4.out HBo.out).mono ?_; intro e w5' hop; obtain ⟨p9, own9, rfl, hF5, hb5⟩ := openP HOp.out (bel_more (HO.out).bel Hb4) hop; have HF9 := Lib.hid hF5; have Hb5 := Lib.hid hb5; clear hop hF5 hb5))
            have HF7 := Lib.hid (((HF.out).below Hb4.out).below Hb5.out)
            have Hbr := Lib.hid (bel_more Hb4.out Hb5)
            clear Ho4 Hb4 Hb5 HBo HOp HBk HO HF
            by_cases hn4 : 4096 < n
            · have hn4' : 4096 < (n : Int) := by omega
              have HEa : Hid (ends (brecs 0 ra) = 1) := Lib.hid (by rw [ends_brecs_all ra (Hral.out).2.2]; exact (Hral.out).2.1 hn4)
              go_wp2_with (first
                | (go_at_call 15; refine (blocks_le (HF9.out).st HBl).mono ?_; rintro e w11 ⟨rfl, hb11⟩; have Hb11 := Lib.hid hb11; clear hb11)
                | (go_at_call 14; (with_reducible refine (HBk2.out _ (seq2 Hbr Hb11 Hb12)).mono ?_); rintro e w' ⟨rfl, rfl⟩)
                | (go_at_call 14; (with_reducible refine (HBk2.out _ (seq1 Hbr Hb11)).mono ?_); rintro e w' ⟨rfl, rfl⟩)
                | (go_at_call 16; (with_reducible refine (len_at ((HF9.out).below Hb11.out).st HEn).mono ?_); rintro e w12 ⟨rfl, hb12⟩; have Hb12 := Lib.hid hb12; clear hb12)
                | (go_at_call 16; (with_reducible refine (len_at (((HF7.out).below Hb11.out).below Hb12.out).st HEa).mono ?_); rintro e w13 ⟨rfl, hb13⟩; have Hb13 := Lib.hid hb13; clear hb13)
                | (go_at_call 17; refine (awake_any _).mono ?_; rintro e w14 ⟨rfl, hb14⟩; have Hb14 := Lib.hid hb14; clear hb14))
              go_ret
              exact ⟨rfl, bel_more (bel_more (bel_more (bel_more (HF7.out).bel Hb11) Hb12) Hb13) Hb14⟩
            · have hn4' : ¬ 4096 < (n : Int) := by omega
              have HEa : Hid (ends (brecs 0 ra) = 3) := Lib.hid (by rw [ends_brecs_all ra (Hral.out).2.2]; exact (Hral.out).1 (by omega))
              go_wp2_with (first
                | (go_at_call 15; refine (blocks_le (HF9.out).st HBl).mono ?_; rintro e w11 ⟨rfl, hb11⟩; have Hb11 := Lib.hid hb11; clear hb11)
                | (go_at_call 14; (with_reducible refine (HBk2.out _ (seq2 Hbr Hb11 Hb12)).mono ?_); rintro e w' ⟨rfl, rfl⟩)
                | (go_at_call 14; (with_reducible refine (HBk2.out _ (seq1 Hbr Hb11)).mono ?_); rintro e w' ⟨rfl, rfl⟩)
                | (go_at_call 16; (with_reducible refine (len_at ((HF9.out).below Hb11.out).st HEn).mono ?_); rintro e w12 ⟨rfl, hb12⟩; have Hb12 := Lib.hid hb12; clear hb12)
                | (go_at_call 16; (with_reducible refine (len_at (((HF7.out).below Hb11.out).below Hb12.out).st HEa).mono ?_); rintro e w13 ⟨rfl, hb13⟩; have Hb13 := Lib.hid hb13; clear hb13)
                | (go_at_call 17; refine (awake_any _).mono ?_; rintro e w14 ⟨rfl, hb14⟩; have Hb14 := Lib.hid hb14; clear hb14))
              go_ret
              exact ⟨rfl, bel_more (bel_more (bel_more (bel_more (HF7.out).bel Hb11) Hb12) Hb13) Hb14⟩
          · have HNd2 : Hid (needs (many 103 111) * 32 = 524320) := Lib.hid (by rw [many_needs])
            have HNd3 : Hid (needs (many 103 111) = 16385) := Lib.hid (by rw [many_needs])
            obtain ⟨bt, Hbt⟩ : ∃ bt, Hid (bt = bytes (many 103 111)) := ⟨_, Lib.hid rfl⟩
            have HBo : Hid (byteOk bt) := Lib.hid (by rw [Hbt.out]; exact bytes_okB _ (fun r hr => (Hmok.out 103 111 r hr).1))
            obtain ⟨rb, Hrb⟩ : ∃ rb, Hid (rb = many 103 110) := ⟨_, Lib.hid rfl⟩
            have HOp : Hid (opn bt = rb) := Lib.hid (by rw [Hbt.out, Hrb.out]; exact opn_many1)
            have HBl : Hid ((brecs 0 rb).length = 16384) := Lib.hid (by rw [brecs_len, Hrb.out, many_needs])
            have HEn : Hid (ends (brecs 0 rb) = 213) := Lib.hid (by rw [ends_brecs_all rb (by rw [Hrb.out]; exact fun r hr => (many_ok _ _ r hr).2.1), Hrb.out, many_len])
            have HBk2 : Hid (∀ w9, Below wr.heap.size wr w9 → Calls Try.prog 14 #[.slice A 214 c] w9 fun e w' => e = .returned (.int .i64 16385) ∧ w9 = w') := Lib.hid (fun w9 hb => ((HO.out).below hb).blocks (by decide) (fun r hr => (Hmok.out 103 111 r hr).2) HNd3)
            go_upto_region 10 with (first
              | (go_at_call 14; refine (HBk.out).mono ?_; rintro e w' ⟨rfl, rfl⟩)
              | (go_at_call 11; refine (HM2.out _).mono ?_; rintro e w' ⟨rfl, rfl⟩)
              | (go_at_call 13; refine ((HO.out).bytes (by decide) (Hmok.out 103 111) (by rw [HNd3.out]; decide) HNd2).mono ?_; rw [← Hbt.out]; rintro e w4' ⟨A4', c4', rfl, ho4, hb4⟩; have Ho4 := Lib.hid ho4; have Hb4 := Lib.hid hb4; clear ho4 hb4)
              | (go_at_call 12; refine (open_row (w := w) Ho4.out HBo.out).mono ?_; intro e w5' hop; obtain ⟨p9, own9, rfl, hF5, hb5⟩ := openP HOp.out (bel_more (HO.out).bel Hb4) hop; have HF9 := Lib.hid hF5; have Hb5 := Lib.hid hb5; clear hop hF5 hb5))
            have HF7 := Lib.hid (((HF.out).below Hb4.out).below Hb5.out)
            have Hbr := Lib.hid (bel_more Hb4.out Hb5)
            clear Ho4 Hb4 Hb5 HBo HOp HBk HO HF
            by_cases hn4 : 4096 < n
            · have hn4' : 4096 < (n : Int) := by omega
              have HEa : Hid (ends (brecs 0 ra) = 1) := Lib.hid (by rw [ends_brecs_all ra (Hral.out).2.2]; exact (Hral.out).2.1 hn4)
              go_wp2_with (first
                | (go_at_call 15; refine (blocks_le (HF9.out).st HBl).mono ?_; rintro e w11 ⟨rfl, hb11⟩; have Hb11 := Lib.hid hb11; clear hb11)
                | (go_at_call 14; (with_reducible refine (HBk2.out _ (seq2 Hbr Hb11 Hb12)).mono ?_); rintro e w' ⟨rfl, rfl⟩)
                | (go_at_call 14; (with_reducible refine (HBk2.out _ (seq1 Hbr Hb11)).mono ?_); rintro e w' ⟨rfl, rfl⟩)
                | (go_at_call 16; (with_reducible refine (len_at ((HF9.out).below Hb11.out).st HEn).mono ?_); rintro e w12 ⟨rfl, hb12⟩; have Hb12 := Lib.hid hb12; clear hb12)
                | (go_at_call 16; (with_reducible refine (len_at (((HF7.out).below Hb11.out).below Hb12.out).st HEa).mono ?_); rintro e w13 ⟨rfl, hb13⟩; have Hb13 := Lib.hid hb13; clear hb13)
                | (go_at_call 17; refine (awake_any _).mono ?_; rintro e w14 ⟨rfl, hb14⟩; have Hb14 := Lib.hid hb14; clear hb14))
              go_ret
              exact ⟨rfl, bel_more (bel_more (bel_more (bel_more (HF7.out).bel Hb11) Hb12) Hb13) Hb14⟩
            · have hn4' : ¬ 4096 < (n : Int) := by omega
              have HEa : Hid (ends (brecs 0 ra) = 3) := Lib.hid (by rw [ends_brecs_all ra (Hral.out).2.2]; exact (Hral.out).1 (by omega))
              go_wp2_with (first
                | (go_at_call 15; refine (blocks_le (HF9.out).st HBl).mono ?_; rintro e w11 ⟨rfl, hb11⟩; have Hb11 := Lib.hid hb11; clear hb11)
                | (go_at_call 14; (with_reducible refine (HBk2.out _ (seq2 Hbr Hb11 Hb12)).mono ?_); rintro e w' ⟨rfl, rfl⟩)
                | (go_at_call 14; (with_reducible refine (HBk2.out _ (seq1 Hbr Hb11)).mono ?_); rintro e w' ⟨rfl, rfl⟩)
                | (go_at_call 16; (with_reducible refine (len_at ((HF9.out).below Hb11.out).st HEn).mono ?_); rintro e w12 ⟨rfl, hb12⟩; have Hb12 := Lib.hid hb12; clear hb12)
                | (go_at_call 16; (with_reducible refine (len_at (((HF7.out).below Hb11.out).below Hb12.out).st HEa).mono ?_); rintro e w13 ⟨rfl, hb13⟩; have Hb13 := Lib.hid hb13; clear hb13)
                | (go_at_call 17; refine (awake_any _).mono ?_; rintro e w14 ⟨rfl, hb14⟩; have Hb14 := Lib.hid hb14; clear hb14))
              go_ret
              exact ⟨rfl, bel_more (bel_more (bel_more (bel_more (HF7.out).bel Hb11) Hb12) Hb13) Hb14⟩
end Go.Proofs.Ytabnlnhnefjebaa
