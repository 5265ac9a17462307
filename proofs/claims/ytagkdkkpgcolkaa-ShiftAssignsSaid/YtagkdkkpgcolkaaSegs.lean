/-
  Contract of segments of package clock.
-/
import Derived.Test.YtagkdkkpgcolkaaZone
import Derived.Test.YtagkdkkpgcolkaaTriple
namespace Go.Proofs.Ytagkdkkpgcolkaa
open Go.RowKit
set_option linter.unusedVariables false
set_option linter.unusedSimpArgs false

def sFrom (l : List (Int × Int)) (k : Nat) : Int := if k = 0 then 0 else fst2 l (k - 1)
def sOff (o : Int) (l : List (Int × Int)) (k : Nat) : Int := if k = 0 then o else snd2 l (k - 1)
def sgTo (o : Int) (l : List (Int × Int)) : Nat → List T3
  | 0 => []
  | k + 1 => if sFrom l k < fst2 l k then sgTo o l k ++ [(sFrom l k, fst2 l k, sOff o l k)] else sgTo o l k
def segs (o : Int) (l : List (Int × Int)) : List T3 := sgTo o l l.length ++ [(sFrom l l.length, 120968640, sOff o l l.length)]
theorem sgTo_yes {o : Int} {l : List (Int × Int)} {k : Nat} (h : sFrom l k < fst2 l k) : sgTo o l (k + 1) = sgTo o l k ++ [(sFrom l k, fst2 l k, sOff o l k)] := if_pos h
theorem sgTo_no {o : Int} {l : List (Int × Int)} {k : Nat} (h : ¬ sFrom l k < fst2 l k) : sgTo o l (k + 1) = sgTo o l k := if_neg h
theorem sgTo_len (o : Int) (l : List (Int × Int)) : ∀ k, (sgTo o l k).length ≤ k
  | 0 => by simp [sgTo]
  | k + 1 => by
    have := sgTo_len o l k
    simp only [sgTo]
    split
    · simp; omega
    · omega
theorem infoS : (Try.prog.info? 85).map (fun i => (i.zero, i.size, i.bytes)) = some (some (.agg #[.int .i64 0, .int .i64 0, .int .i64 0]), 3, 24) := by kernel_rfl
def OwnT (w : World) (base : Nat) (A : Option Addr) (c : Nat) (s : List T3) : Prop := w.ownsRow base 85 3 (.slice A s.length c) s.length (flat3 s)
theorem OwnT.alloc {w : World} {base : Nat} {A : Option Addr} {c : Nat} {s : List T3} (h : OwnT w base A c s) (o : Obj) : OwnT (w.alloc o) base A c s := World.ownsRow.alloc h o
theorem OwnT.far {w : World} {base : Nat} {A : Option Addr} {c : Nat} {s : List T3} (h : OwnT w base A c s) {p : Addr} (hp : p.block < base) (u : Value) : OwnT (w.setCell p u) base A c s :=
  World.ownsRow.kept h ((Only.refl p.block w).setCell (.inl rfl) u) (.inr (fun e => by have := (World.ownsRow.lt h _ e).1; omega))
theorem own3_snoc {w : World} {base : Nat} {A : Option Addr} {c : Nat} {s : List T3} {x : T3}
    (h : w.ownsRow base 85 3 (.slice A (s.length + 1) c) (s.length + 1) (flat3 s ++ [.int .i64 x.1, .int .i64 x.2.1, .int .i64 x.2.2])) : OwnT w base A c (s ++ [x]) := by
  unfold OwnT
  rw [flat3_snoc s x]
  simpa using h
def SegsPost (o : Int) (l : List (Int × Int)) (w : World) (e : Ending) (w' : World) : Prop :=
  ∃ A c, e = .returned (.slice A (segs o l).length c) ∧ Below w.heap.size w w' ∧ RdT w' w'.heap.size A (segs o l)

theorem seg_round {o : Int} {l : List (Int × Int)} {w w2 : World} {A2 : Option Addr} {c2 k : Nat} {S : List T3} {x0 x1 x2 : Value} (hk : k + 1 ≤ l.length) (hS : sgTo o l (k + 1) = S) (ho : OwnT w2 (w.heap.size + 2) A2 c2 S)
    (hb : Blk w2 (w.heap.size + 1) 85 #[x0, x1, x2]) (hbl : Below w.heap.size w w2) (hsz : w.heap.size + 2 ≤ w2.heap.size) :
    ∃ (k_1 : Nat) (A1 : Option Addr) (c1 : Nat) (tv : Int), k_1 ≤ l.length ∧ Value.int .i64 ((k : Int) + 1) = .int .i64 (k_1 : Int) ∧ Value.slice A2 S.length c2 = .slice A1 (sgTo o l k_1).length c1 ∧
      OwnT (((w2.setCell ⟨w.heap.size + 1, 0, none⟩ (.int .i64 (fst2 l k))).setCell ⟨w.heap.size + 1, 1, none⟩ (.int .i64 0)).setCell ⟨w.heap.size + 1, 2, none⟩ (.int .i64 (snd2 l k))) (w.heap.size + 2) A1 c1 (sgTo o l k_1) ∧
      Blk (((w2.setCell ⟨w.heap.size + 1, 0, none⟩ (.int .i64 (fst2 l k))).setCell ⟨w.heap.size + 1, 1, none⟩ (.int .i64 0)).setCell ⟨w.heap.size + 1, 2, none⟩ (.int .i64 (snd2 l k))) (w.heap.size + 1) 85 #[.int .i64 (sFrom l k_1), .int .i64 tv, .int .i64 (sOff o l k_1)] ∧
      Below w.heap.size w (((w2.setCell ⟨w.heap.size + 1, 0, none⟩ (.int .i64 (fst2 l k))).setCell ⟨w.heap.size + 1, 1, none⟩ (.int .i64 0)).setCell ⟨w.heap.size + 1, 2, none⟩ (.int .i64 (snd2 l k))) ∧
      w.heap.size + 2 ≤ (((w2.setCell ⟨w.heap.size + 1, 0, none⟩ (.int .i64 (fst2 l k))).setCell ⟨w.heap.size + 1, 1, none⟩ (.int .i64 0)).setCell ⟨w.heap.size + 1, 2, none⟩ (.int .i64 (snd2 l k))).heap.size := by
  refine ⟨k + 1, A2, c2, 0, hk, by rw [show ((k + 1 : Nat) : Int) = (k : Int) + 1 by omega], by rw [hS], ?_, ?_, ?_, by simpa [World.setCell] using hsz⟩
  · rw [hS]
    exact ((ho.far (by show w.heap.size + 1 < w.heap.size + 2; omega) _).far (by show w.heap.size + 1 < w.heap.size + 2; omega) _).far (by show w.heap.size + 1 < w.heap.size + 2; omega) _
  · have := ((hb.set_ 0 (.int .i64 (fst2 l k))).set_ 1 (.int .i64 0)).set_ 2 (.int .i64 (snd2 l k))
    simpa [sFrom, sOff] using this
  · exact ((hbl.setCell (by show w.heap.size ≤ w.heap.size + 1; omega) _).setCell (by show w.heap.size ≤ w.heap.size + 1; omega) _).setCell (by show w.heap.size ≤ w.heap.size + 1; omega) _

set_option maxHeartbeats 1600000 in
theorem segments_any (A : Option Addr) (c B : Nat) (o : Int) (l : List (Int × Int)) (w : World) (hr : RdP w B A l) (hB : B ≤ w.heap.size) (hl : l.length ≤ 64) :
    Calls Try.prog 42 #[.agg #[.int .i64 o, .slice A l.length c]] w (SegsPost o l w) := by
  have HR := Lib.hid hr
  clear hr
  obtain ⟨i0, hi, hz0, hz1, hz2⟩ := info_parts infoS
  go_enter Try.func42, Try.ntmps42
  go_wp2
  go_loopw [3, 13] (fun v i wr => ∃ (k : Nat) (A1 : Option Addr) (c1 : Nat) (tv : Int), k ≤ l.length ∧ i = .int .i64 k ∧ v = .slice A1 (sgTo o l k).length c1 ∧ OwnT wr (w.heap.size + 2) A1 c1 (sgTo o l k) ∧ Blk wr (w.heap.size + 1) 85 #[.int .i64 (sFrom l k), .int .i64 tv, .int .i64 (sOff o l k)] ∧ Below w.heap.size w wr ∧ w.heap.size + 2 ≤ wr.heap.size) (fun _ i _ => l.length - (intOf i).toNat)
  case atStart =>
    refine ⟨0, none, 0, 0, Nat.zero_le _, rfl, rfl, World.ownsRow_nil _ _ _ _, ?_, ((Below.refl _ _).alloc (Nat.le_refl _) _).alloc (by simp) _, by simp⟩
    have := Blk.new (w.alloc (.cells #[.int .i64 o, .slice A l.length c] 25)) 85 #[.int .i64 0, .int .i64 0, .int .i64 o]
    simpa [sFrom, sOff] using this
  case round =>
    obtain ⟨k, A1, c1, tv, hk, rfl, rfl, hown, hbk, hbl, hsz⟩ := hrel
    have HOW := Lib.hid hown
    have HBK := Lib.hid hbk
    have HBL := Lib.hid hbl
    have hsl := sgTo_len o l k
    have b0 : ∀ ob, (wr.alloc ob).cell? ⟨w.heap.size + 1, 0, none⟩ = some (.int .i64 (sFrom l k)) := fun ob => (hbk.alloc ob).cell 0
    have b1 : ∀ ob, (wr.alloc ob).cell? ⟨w.heap.size + 1, 1, none⟩ = some (.int .i64 tv) := fun ob => (hbk.alloc ob).cell 1
    have b2 : ∀ ob, (wr.alloc ob).cell? ⟨w.heap.size + 1, 2, none⟩ = some (.int .i64 (sOff o l k)) := fun ob => (hbk.alloc ob).cell 2
    have f0 : ∀ ob, (wr.alloc ob).frozen? ⟨w.heap.size + 1, 0, none⟩ = false := fun ob => (hbk.alloc ob).frozen 0
    have f1 : ∀ ob, (wr.alloc ob).frozen? ⟨w.heap.size + 1, 1, none⟩ = false := fun ob => (hbk.alloc ob).frozen 1
    have f2 : ∀ ob, (wr.alloc ob).frozen? ⟨w.heap.size + 1, 2, none⟩ = false := fun ob => (hbk.alloc ob).frozen 2
    clear hown hbk hbl
    by_cases hlt : k < l.length
    · obtain ⟨b, off, rfl, hb, hc1, hc2⟩ := HR.out.all (by omega)
      have e1 : wr.cell? ⟨b, off + k * 2, none⟩ = some (.int .i64 (fst2 l k)) := (HBL.out.cell (by show b < _; omega)).trans (hc1 k hlt)
      have e2 : wr.cell? ⟨b, off + k * 2 + 1, none⟩ = some (.int .i64 (snd2 l k)) := (HBL.out.cell (by show b < _; omega)).trans (hc2 k hlt)
      clear hc1 hc2
      by_cases hf : sFrom l k < fst2 l k
      · have HN := Lib.hid (sgTo_yes (o := o) hf)
        go_wp2_with (at_builtin; go_must (refine wpList_append_sk _ rfl _ _ 82 rfl (w.heap.size + 2) 85 i0 _ 3 24 Try.underlying82 hi hz0 hz1 hz2 rfl (by decide) A1 c1 _ (flat3 (sgTo o l k)) rfl (by exact ((HOW.out.alloc _).far (by show w.heap.size + 1 < w.heap.size + 2; omega) _).alloc _) ⟨_, 0, none⟩ 1 1 [.int .i64 (sFrom l k), .int .i64 (fst2 l k), .int .i64 (sOff o l k)] rfl rfl ?c1 ?c2 ?c3 ?c4 ?c5 ?_))
        case c1 => exact cells_at _ _ [.int .i64 (sFrom l k), .int .i64 (fst2 l k), .int .i64 (sOff o l k)] _ (by simp [World.setCell])
        case c2 => exact ints_one [sFrom l k, fst2 l k, sOff o l k]
        case c3 => unfold maxLen; omega
        case c4 => omega
        case c5 => simp [World.setCell]; omega
        intro A2 c2 w2 hown2 hb2 hcell2
        have HO2 := Lib.hid (own3_snoc (x := (sFrom l k, fst2 l k, sOff o l k)) hown2)
        have HB2 := Lib.hid ((((HBL.out.alloc (by omega) _).setCell (by show w.heap.size ≤ w.heap.size + 1; omega) _).alloc (by simp [World.setCell]; omega) _).trans (hb2.mono (by omega)))
        have hs2 := hb2.size
        simp [World.setCell] at hs2
        have HBK2 := Lib.hid (((((HBK.out.alloc _).set_ 1 (.int .i64 (fst2 l k))).alloc _)).below hb2 (by omega))
        have hnb : some wr.heap.size ≠ (Value.slice A1 (sgTo o l k).length c1).ownBlock := fun e => by have := (World.ownsRow.lt HOW.out wr.heap.size e.symm).2; omega
        have g0 : w2.cell? ⟨wr.heap.size, 0, none⟩ = some (.int .i64 (fst2 l k)) := (hcell2 wr.heap.size 0 (by first | omega | (simp [World.setCell]; omega)) hnb).trans ((((Blk.new wr _ _).far (p := ⟨w.heap.size + 1, 1, none⟩) (by show wr.heap.size ≠ w.heap.size + 1; omega) _).alloc _).cell 0)
        have g1 : w2.cell? ⟨wr.heap.size, 1, none⟩ = some (.int .i64 (snd2 l k)) := (hcell2 wr.heap.size 1 (by first | omega | (simp [World.setCell]; omega)) hnb).trans ((((Blk.new wr _ _).far (p := ⟨w.heap.size + 1, 1, none⟩) (by show wr.heap.size ≠ w.heap.size + 1; omega) _).alloc _).cell 1)
        have k0 := HBK2.out.cell 0
        have k1 := HBK2.out.cell 1
        have k2 := HBK2.out.cell 2
        have m0 := HBK2.out.frozen 0
        have m1 := HBK2.out.frozen 1
        have m2 := HBK2.out.frozen 2
        simp at k0 k1 k2
        clear hown2 hb2 hcell2 b0 b1 b2 f0 f1 f2 hnb
        go_wp2
        go_roundw
        case rel =>
          have h := seg_round (by omega) HN.out HO2.out HBK2.out HB2.out (by omega)
          simp only [List.length_append, List.length_cons, List.length_nil, Nat.zero_add] at h
          exact h
        case measure => simp [intOf]; omega
      · have HN := Lib.hid (sgTo_no (o := o) hf)
        have HBK2 := Lib.hid ((HBK.out.alloc (.cells #[.int .i64 (fst2 l k), .int .i64 (snd2 l k)] 68)).set_ 1 (.int .i64 (fst2 l k)))
        have HO2 : Hid (OwnT _ _ _ _ _) := Lib.hid ((HOW.out.alloc (.cells #[.int .i64 (fst2 l k), .int .i64 (snd2 l k)] 68)).far (p := ⟨w.heap.size + 1, 1, none⟩) (by show w.heap.size + 1 < w.heap.size + 2; omega) (.int .i64 (fst2 l k)))
        have HB2 := Lib.hid ((HBL.out.alloc (by omega) (.cells #[.int .i64 (fst2 l k), .int .i64 (snd2 l k)] 68)).setCell (p := ⟨w.heap.size + 1, 1, none⟩) (by show w.heap.size ≤ w.heap.size + 1; omega) (.int .i64 (fst2 l k)))
        go_wp2
        go_roundw
        case rel => exact seg_round (by omega) HN.out HO2.out HBK2.out HB2.out (by simp [World.setCell]; omega)
        case measure => simp [intOf]; omega
    · have hkl : k = l.length := by omega
      subst hkl
      have k0 := HBK.out.cell 0
      have k1 := HBK.out.cell 1
      have k2 := HBK.out.cell 2
      have m0 := HBK.out.frozen 0
      have m1 := HBK.out.frozen 1
      have m2 := HBK.out.frozen 2
      simp at k0 k1 k2
      clear b0 b1 b2 f0 f1 f2
      go_wp2_with (at_builtin; go_must (refine wpList_append_sk _ rfl _ _ 82 rfl (w.heap.size + 2) 85 i0 _ 3 24 Try.underlying82 hi hz0 hz1 hz2 rfl (by decide) A1 c1 _ (flat3 (sgTo o l l.length)) rfl (by exact (HOW.out.far (by show w.heap.size + 1 < w.heap.size + 2; omega) _).alloc _) ⟨_, 0, none⟩ 1 1 [.int .i64 (sFrom l l.length), .int .i64 120968640, .int .i64 (sOff o l l.length)] rfl rfl ?d1 ?d2 ?d3 ?d4 ?d5 ?_))
      case d1 => exact cells_at _ _ [.int .i64 (sFrom l l.length), .int .i64 120968640, .int .i64 (sOff o l l.length)] _ (by simp [World.setCell])
      case d2 => exact ints_one [sFrom l l.length, 120968640, sOff o l l.length]
      case d3 => unfold maxLen; omega
      case d4 => omega
      case d5 => simp [World.setCell]; omega
      intro A2 c2 w2 hown2 hb2 _
      have HO2 := Lib.hid (own3_snoc (x := (sFrom l l.length, 120968640, sOff o l l.length)) hown2)
      have HB2 := Lib.hid (((HBL.out.setCell (by show w.heap.size ≤ w.heap.size + 1; omega) _).alloc (by simp [World.setCell]; omega) _).trans (hb2.mono (by omega)))
      clear hown2 hb2
      go_wp2
      go_ret
      exact ⟨A2, c2, by simp [segs], HB2.out, own_rd3 HO2.out⟩
end Go.Proofs.Ytagkdkkpgcolkaa
