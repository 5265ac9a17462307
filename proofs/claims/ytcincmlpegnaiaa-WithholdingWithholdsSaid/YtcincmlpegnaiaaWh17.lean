/-
  Chapter 30: the contract of paygen.Rows.
-/
import Derived.Test.YtcincmlpegnaiaaWh16
namespace Go.Proofs.Ytcincmlpegnaiaa
open Go.RowKit
set_option linter.unusedVariables false
set_option linter.unusedSimpArgs false

def RowsPost (g : Nat) (N : Int) (w : World) (e : Ending) (w' : World) : Prop :=
  ∃ A c l, e = .returned (.slice A l.length c) ∧ Tbl l ∧ l.length ≤ 5 ∧ OwnR w' w.heap.size A c l ∧ Only g w w' ∧ Deck w' g N
def CutR (w : World) (g : Nat) (M : Int) (s : List (Int × Int)) (y : Int × Int) (s3 : Value) (wx : World) : Prop :=
  ∃ A' c' x, s3 = .slice A' (s.length + 1 + 1) c' ∧ y.1 < x.1 ∧ x.1 ≤ y.1 + 100001 ∧ y.2 ≤ x.2 ∧ x.2 ≤ y.2 + 20000 ∧ OwnR wx w.heap.size A' c' (s ++ [y] ++ [x]) ∧ Only g w wx ∧ Deck wx g M
section
variable {w W W' : World} {g c z gb : Nat} {M M' : Int} {A : Option Addr} {s : List (Int × Int)} {y x : Int × Int}
theorem QR.ownl (h : QR w g M (some ⟨gb, 0, none⟩) c (s ++ [y]) z y W) : W.ownsRow w.heap.size 75 2 (.slice (some ⟨gb, 0, none⟩) (s.length + 1) c) (s.length + 1) (flat (s ++ [y])) := by
  have := h.own
  unfold OwnR at this
  simpa using this
theorem ownR_snoc {A : Option Addr} (h : W.ownsRow w.heap.size 75 2 (.slice A (s.length + 1 + 1) c) (s.length + 1 + 1) (flat (s ++ [y]) ++ [.int .i64 x.1, .int .i64 x.2])) : OwnR W w.heap.size A c (s ++ [y] ++ [x]) := by
  unfold OwnR
  rw [flat_snoc (s ++ [y]) x]
  simpa using h
theorem cutR_fin {a1 a2 : Int} {A3 : Option Addr} {c3 : Nat} (hq : QR w g M (some ⟨gb, 0, none⟩) c (s ++ [y]) z y W) (hb : Below w.heap.size W W') (ho : W'.ownsRow w.heap.size 75 2 (.slice A3 (s.length + 1 + 1) c3) (s.length + 1 + 1) (flat (s ++ [y]) ++ [.int .i64 a1, .int .i64 a2])) (hM : M ≤ M')
    (h1 : y.1 < a1) (h2 : a1 ≤ y.1 + 100001) (h3 : y.2 ≤ a2) (h4 : a2 ≤ y.2 + 20000) : CutR w g M' s y (.slice A3 (s.length + 1 + 1) c3) W' :=
  ⟨A3, c3, (a1, a2), rfl, h1, h2, h3, h4, ownR_snoc (x := (a1, a2)) ho, only_below hq.on hb, (hq.deck.below hb hq.gw).more hM⟩
theorem cutR_cells (hq : QR w g M A c s z y W) (ho : Only gb W W') (hzg : ¬ z = gb) : W'.cell? ⟨z, 0, none⟩ = some (.int .i64 y.1) ∧ W'.cell? ⟨z, 1, none⟩ = some (.int .i64 y.2) :=
  ⟨(only_cells ho z 0 hq.hz hzg).trans hq.c0, (only_cells ho z 1 hq.hz hzg).trans hq.c1⟩
theorem CutR.drew {s3 : Value} (h : CutR w g M s y s3 W) : CutR w g M s y s3 W.drew := by
  obtain ⟨A', c', x, h1, h2, h3, h4, h5, h6, h7, h8⟩ := h
  exact ⟨A', c', x, h1, h2, h3, h4, h5, h6, h7.drew, h8.drewN 1⟩
theorem rows_rel {N kk : Int} {s3 : Value} (h : CutR w g (N + 2 + 2 * (s.length + 1)) s y s3 W) (hg : GenR (s ++ [y])) (h1 : 0 < kk) (h2 : (s.length : Int) + 1 + kk ≤ 5) :
    ∃ (A : Option Addr) (c : Nat) (l : List (Int × Int)) (k2 : Int), s3 = .slice A l.length c ∧ Value.int .i64 (kk - 1) = .int .i64 k2 ∧ 0 ≤ k2 ∧ (l.length : Int) + k2 ≤ 5 ∧ GenR l ∧ OwnR W w.heap.size A c l ∧ Only g w W ∧ Deck W g (N + 2 + 2 * ((l.length : Int) - 1)) := by
  obtain ⟨A', c', x, g1, g2, g3, g4, g5, g6, g7, g8⟩ := h
  exact ⟨A', c', s ++ [y] ++ [x], kk - 1, by rw [g1]; simp, rfl, by omega, by simp; omega, genR_step hg g2 g3 g4 g5, g6, g7, g8.more (by simp; omega)⟩
end

set_option maxHeartbeats 1600000 in
theorem rows_any (g : Nat) (N : Int) (w : World) (hD : Deck w g N) (hN : N ≤ 800000) :
    Calls Try.prog 38 #[.pointer (some ⟨g, 0, none⟩)] w (RowsPost g (N + 12) w) := by
  have hgl := hD.lt
  obtain ⟨i0, hi, hz0, hz1, hz2⟩ := info_parts infoR
  go_enter Try.func38, Try.ntmps38
  go_wp2_with fail
  refine (pick_new g N [0, 0, 100] w 3 3 hD (by omega) (by decide) (by decide)).mono ?_
  rintro e w1 ⟨x, rfl, hx, ho, hD'⟩
  have HO1 := Lib.hid ho
  have HD1 := Lib.hid hD'
  clear ho hD' hD
  have hb : 0 ≤ x ∧ x ≤ 100 := by simp at hx; omega
  clear hx
  have hs1 := HO1.out.size
  go_wp2_with fail
  refine (next_any g (N + 1) _ _ (HD1.out.alloc _) (by omega) (by omega) (by omega)).mono ?_
  rintro e w2 ⟨kk, rfl, hkk, ho, hD'⟩
  have hs2 := ho.size
  have HOW2 : Hid (OwnR w2 w.heap.size (some ⟨w1.heap.size, 0, none⟩) 1 [(0, x)]) := Lib.hid ((ownR_first w1 w.heap.size x hs1).only ho (by omega))
  have HO2 := Lib.hid ((HO1.out.alloc _).trans ho)
  have HD2 := Lib.hid hD'
  have HG : Hid (GenR [(0, x)]) := Lib.hid (genR_first hb.1 hb.2)
  clear ho hD' HD1
  go_wp2
  go_loopw [3, 4, 5] (fun v k _ wr => ∃ (A : Option Addr) (c : Nat) (l : List (Int × Int)) (kk : Int), v = .slice A l.length c ∧ k = .int .i64 kk ∧ 0 ≤ kk ∧ (l.length : Int) + kk ≤ 5 ∧ GenR l ∧ OwnR wr w.heap.size A c l ∧ Only g w wr ∧ Deck wr g (N + 2 + 2 * ((l.length : Int) - 1))) (fun _ k _ _ => (intOf k).toNat)
  case atStart => exact ⟨some ⟨w1.heap.size, 0, none⟩, 1, [(0, x)], kk, rfl, rfl, by omega, by simp; omega, HG.out, HOW2.out, HO2.out, HD2.out.more (by simp; omega)⟩
  case round =>
    obtain ⟨A, c, l, kk, rfl, rfl, hk0, hk4, hgen, hown, hon, hdk⟩ := hrel
    have HGN := Lib.hid hgen
    have HOW := Lib.hid hown
    have HON := Lib.hid hon
    have HDK := Lib.hid hdk
    have hlen := hgen.1
    have hsw := hon.size
    clear hgen hown hon hdk
    by_cases hgo : 0 < kk
    · obtain ⟨s, y, hsy⟩ : ∃ s y, l = s ++ [y] := ⟨l.dropLast, l.getLast (by intro h; rw [h] at hlen; simp at hlen), (List.dropLast_concat_getLast _).symm⟩
      subst hsy
      obtain ⟨gb, rfl, hg1, hg2, q1, q2⟩ := HOW.out.form
      simp only [List.length_append, List.length_cons, List.length_nil, Nat.zero_add] at hk4 hlen HDK ⊢
      have hyb := HGN.out.2.2.1 s.length (by simp)
      rw [fst2_snoc, snd2_snoc] at hyb
      go_upto_region 6 with (fail)
      obtain ⟨W0, hW0⟩ : ∃ W0, W0 = wr.alloc (.cells #[.int .i64 y.1, .int .i64 y.2] 75) := ⟨_, rfl⟩
      have HQ : Hid (QR w g (N + 2 + 2 * s.length) (some ⟨gb, 0, none⟩) c (s ++ [y]) wr.heap.size y W0) := Lib.hid (by
        rw [hW0]
        exact ⟨(HDK.out.alloc _).more (by omega), HON.out.alloc _, World.ownsRow.alloc HOW.out _, (Blk.new wr _ _).cell 0, (Blk.new wr _ _).cell 1, by simp, by omega, hgl⟩)
      rw [← hW0]
      clear hW0 HOW HON HDK q1 q2
      generalize wr.heap.size = z at *
      have c0 := HQ.out.c0
      have c1 := HQ.out.c1
      have HN1 : Hid (∀ W, QR w g (N + 2 + 2 * s.length) (some ⟨gb, 0, none⟩) c (s ++ [y]) z y W → Calls Try.prog 17 #[.pointer (some ⟨g, 0, none⟩), .int .i64 100000] W (fun e w' => ∃ v, e = .returned (.int .i64 v) ∧ (0 ≤ v ∧ v < 100000) ∧ QR w g (N + 2 + 2 * s.length + 1) (some ⟨gb, 0, none⟩) c (s ++ [y]) z y w')) := Lib.hid (fun W h => (next_any g (N + 2 + 2 * s.length) 100000 W h.deck (by omega) (by omega) (by omega)).mono (by
        rintro e w' ⟨v, e1, e2, e3, e4⟩
        exact ⟨v, e1, e2, h.next e3 e4⟩))
      have HN2 : Hid (∀ W, QR w g (N + 2 + 2 * s.length + 1) (some ⟨gb, 0, none⟩) c (s ++ [y]) z y W → Calls Try.prog 17 #[.pointer (some ⟨g, 0, none⟩), .int .i64 20000] W (fun e w' => ∃ v, e = .returned (.int .i64 v) ∧ (0 ≤ v ∧ v < 20000) ∧ QR w g (N + 2 + 2 * s.length + 1 + 1) (some ⟨gb, 0, none⟩) c (s ++ [y]) z y w')) := Lib.hid (fun W h => (next_any g (N + 2 + 2 * s.length + 1) 20000 W h.deck (by omega) (by omega) (by omega)).mono (by
        rintro e w' ⟨v, e1, e2, e3, e4⟩
        exact ⟨v, e1, e2, h.next e3 e4⟩))
      have HI : Hid (IntKind.i64.wrap (y.1 + 1) = y.1 + 1 ∧ (∀ v, 0 ≤ v ∧ v < 100000 → IntKind.i64.wrap (y.1 + 1 + v) = y.1 + 1 + v) ∧ ∀ v, 0 ≤ v ∧ v < 20000 → IntKind.i64.wrap (y.2 + v) = y.2 + v) := Lib.hid ⟨IntWalk.i64_in _ (by omega), fun v h => IntWalk.i64_in _ (by omega), fun v h => IntWalk.i64_in _ (by omega)⟩
      have hzg : ¬ z = gb := by omega
      have hml : s.length + 1 + 1 ≤ maxLen := by unfold maxLen; omega
      have hmb : (s.length + 1 + 1) * 16 ≤ 140737488355328 := by omega
      have i1 := HI.out.1
      go_region_held3 (fun W => W.cell? ⟨z, 0, none⟩ = some (.int .i64 y.1) ∧ W.cell? ⟨z, 1, none⟩ = some (.int .i64 y.2)) (go_keep)
          (first | (go_at_call 17; first | (with_reducible refine (HN1.out _ ?_).mono ?_; (repeat (first | exact HQ.out | apply QR.drew)); rintro e w3 ⟨v3, rfl, hv3, hq3⟩; have HQ3 := Lib.hid hq3; have k0 := hq3.c0; have k1 := hq3.c1; have i2 := HI.out.2.1 v3 hv3; clear hq3) | (with_reducible refine (HN2.out _ ?_).mono ?_; (repeat (first | exact HQ3.out | apply QR.drew)); rintro e w4 ⟨v4, rfl, hv4, hq4⟩; have HQ4 := Lib.hid hq4; have k0' := hq4.c0; have k1' := hq4.c1; have i3 := HI.out.2.2 v4 hv4; clear hq4))
                 | (refine step_append_sl _ rfl _ _ 31 rfl w.heap.size 75 i0 _ 2 16 Try.underlying31 hi hz0 hz1 hz2 rfl (Nat.le_succ 1) (some ⟨gb, 0, none⟩) c (s.length + 1) (flat (s ++ [y])) rfl ?_ ⟨_, 0, none⟩ 1 1 [.int .i64 (y.1 + 1 + v3), .int .i64 (y.2 + v4)] rfl rfl ?_ ?_ hml hmb ?_ ?_; (refine QR.ownl (g := g) (M := N + 2 + 2 * s.length + 1 + 1) (z := z) ?_; (repeat (first | exact HQ4.out | apply QR.alloc | apply QR.drew))); (refine cells_at _ _ [.int .i64 (y.1 + 1 + v3), .int .i64 (y.2 + v4)] _ ?_; first | rfl | simp); exact flat_one [(y.1 + 1 + v3, y.2 + v4)]; (have hs4 := HQ4.out.on.size; clear i1 i2 i3; first | (simp; omega) | omega); intro A3 c3 w6 hown6 hb6 hgr6; (first | (have hkk := cutR_cells (QR.alloc HQ4.out _) hgr6 hzg) | (have hkk := cutR_cells (QR.alloc HQ4.out.drew _) hgr6 hzg) | (have hkk := cutR_cells (QR.drew (QR.alloc HQ4.out _)) hgr6 hzg)); have k0'' := hkk.1; have k1'' := hkk.2; clear hkk hgr6; have HO6 := Lib.hid hown6; have HB6 := Lib.hid hb6; clear hown6 hb6))
      all_goals
        clear i1 i2 i3
        have HC : Hid (CutR w g (N + 2 + 2 * (s.length + 1)) s y (.slice A3 (s.length + 1 + 1) c3) w6) := Lib.hid (cutR_fin (M := N + 2 + 2 * s.length + 1 + 1) (z := z) (c := c) (gb := gb) (by repeat (first | exact HQ4.out | apply QR.alloc | apply QR.drew)) HB6.out HO6.out (by omega) (by omega) (by omega) (by omega) (by omega))
        go_wp2
        go_roundw
        case rel => first | exact rows_rel HC.out HGN.out (by omega) (by omega) | exact rows_rel HC.out.drew HGN.out (by omega) (by omega)
        case measure => simp [intOf]; omega
    · go_wp2
      go_ret
      exact ⟨A, c, l, rfl, genR_tbl HGN.out (by omega), by omega, HOW.out, HON.out, HDK.out.more (by omega)⟩
end Go.Proofs.Ytcincmlpegnaiaa
