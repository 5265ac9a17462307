/-
  Chapter 40: runs and commands in memory; contracts of Same (of equal runs) and Replay.
-/
import Derived.Test.YtolkdidcmingkaaDoorRun6m
import Derived.Deep.RegionHeld3
import Derived.Deep.DeepCutAuto
namespace Go.Proofs.YtolkdidcmingkaaDoor
open Go.RowKit
set_option linter.unusedVariables false
set_option linter.unusedSimpArgs false

/-- a run; a command, with where its employees lie -/
structure RP where
  s : Int
  E : List Int
  c : T3
structure CV where
  k : Int
  A : Option Addr
  n : Nat
  F : List Int
  c : T3
def cv0 : CV := ⟨0, none, 0, [], (0, 0, 0)⟩
abbrev rpV (r : RP) (A : Option Addr) (n : Nat) : Array Value := #[.int .i64 r.s, .slice A r.E.length n, .int .i64 r.c.1, .int .i64 r.c.2.1, .int .i64 r.c.2.2]
abbrev cvV (x : CV) : Array Value := #[.int .i64 x.k, .slice x.A x.F.length x.n, .int .i64 x.c.1, .int .i64 x.c.2.1, .int .i64 x.c.2.2]
def cAt (L : List CV) (i : Nat) : CV := L.getD i cv0
theorem cAt_mem (L : List CV) (i : Nat) (h : i < L.length) : cAt L i ∈ L := by
  unfold cAt
  rw [List.getD_eq_getElem?_getD, List.getElem?_eq_getElem h]
  exact List.getElem_mem h
noncomputable def erP (r : RP) (x : CV) : Int := stE r.s r.E r.c x.k x.F x.c
noncomputable def stP (r : RP) (x : CV) : RP := ⟨stS r.s r.E r.c x.k x.F x.c, stL r.s r.E r.c x.k x.F x.c, stC r.s r.E r.c x.k x.F x.c⟩
def draft : RP := ⟨1, [], (0, 0, 0)⟩
/-- commands in memory below block B -/
def RdC (w : World) (B : Nat) (A : Option Addr) (L : List CV) : Prop := Rd w B 5 A L.length (fun i j => (cvV (cAt L i)).getD j (.int .i64 0)) ∧ ∀ x ∈ L, RdI w B x.A x.F ∧ x.F.length ≤ 100000
theorem RdC.below {w w' : World} {B : Nat} {A : Option Addr} {L : List CV} (h : RdC w B A L) (hb : Below B w w') : RdC w' B A L := ⟨Rd.below h.1 hb, fun x hx => ⟨(h.2 x hx).1.below hb, (h.2 x hx).2⟩⟩
theorem RdC.more {w : World} {B B' : Nat} {A : Option Addr} {L : List CV} (h : RdC w B A L) (hB : B ≤ B') : RdC w B' A L := ⟨Rd.more h.1 hB, fun x hx => ⟨Rd.more (h.2 x hx).1 hB, (h.2 x hx).2⟩⟩
theorem RdC.all {w : World} {B : Nat} {A : Option Addr} {L : List CV} (h : RdC w B A L) (h0 : 0 < L.length) : ∃ b off, A = some ⟨b, off, none⟩ ∧ b < B ∧ ∀ i, i < L.length →
    w.cell? ⟨b, off + i * 5, none⟩ = some (.int .i64 (cAt L i).k) ∧ w.cell? ⟨b, off + i * 5 + 1, none⟩ = some (.slice (cAt L i).A (cAt L i).F.length (cAt L i).n) ∧ w.cell? ⟨b, off + i * 5 + 2, none⟩ = some (.int .i64 (cAt L i).c.1) ∧
    w.cell? ⟨b, off + i * 5 + 3, none⟩ = some (.int .i64 (cAt L i).c.2.1) ∧ w.cell? ⟨b, off + i * 5 + 4, none⟩ = some (.int .i64 (cAt L i).c.2.2) := by
  obtain ⟨b, off, e, hb, hc⟩ := h.1 h0
  exact ⟨b, off, e, hb, fun i hi => ⟨hc i 0 hi (by omega), hc i 1 hi (by omega), hc i 2 hi (by omega), hc i 3 hi (by omega), hc i 4 hi (by omega)⟩⟩
theorem stL_len (r : RP) (x : CV) (h1 : r.E.length ≤ 100000) (h2 : x.F.length ≤ 100000) : (stP r x).E.length ≤ 100000 := by
  show (stL _ _ _ _ _ _).length ≤ 100000
  unfold stL
  split
  · split
    · exact h2
    · split
      · simp
      · exact h1
  · simp

theorem rd_only2 {W W' : World} {g : Nat} {A : Option Addr} {E : List Int} (h : RdI W W.heap.size A E) (ho : Only g W W') (hne : E ≠ [] → ∀ b off, A = some ⟨b, off, none⟩ → b ≠ g) : RdI W' W'.heap.size A E := by
  by_cases hE : E = []
  · subst hE; exact Rd.none_
  · exact rd_only h ho (hne hE)
theorem rd_lt {W : World} {B : Nat} {A : Option Addr} {E : List Int} (h : RdI W B A E) (hE : E ≠ []) : ∀ b off, A = some ⟨b, off, none⟩ → b < B := by
  intro b off e
  obtain ⟨b1, o1, e1, h1, _⟩ := h (List.length_pos_iff.2 hE)
  rw [e] at e1
  injection e1 with e1
  injection e1 with e1
  omega
/-- a run's variable at block rb, beside commands -/
structure ST (w : World) (rb : Nat) (r : RP) (A : Option Addr) (n : Nat) (B : Nat) (Ad : Option Addr) (L : List CV) (W : World) : Prop where
  below : Below w.heap.size w W
  box : Blk W rb 27 (rpV r A n)
  ge : w.heap.size ≤ rb
  rd : RdI W W.heap.size A r.E
  ne : ∀ b off, A = some ⟨b, off, none⟩ → b ≠ rb
  cmds : RdC W B Ad L
  bl : B ≤ rb
  len : r.E.length ≤ 100000
  tab : Tab W
section
variable {w W W' : World} {rb n B : Nat} {r : RP} {A Ad : Option Addr} {L : List CV}
theorem ST.blt (h : ST w rb r A n B Ad L W) : B ≤ W.heap.size := by have := h.box.lt; have := h.bl; omega
theorem ST.calc_ (h : ST w rb r A n B Ad L W) (hb : Below W.heap.size W W') : ST w rb r A n B Ad L W' :=
  ⟨h.below.trans (hb.mono h.below.size), h.box.below hb h.box.lt, h.ge, Rd.more (h.rd.below hb) hb.size, h.ne, h.cmds.below (hb.mono h.blt), h.bl, h.len, h.tab.calc_ hb⟩
theorem ST.alloc (h : ST w rb r A n B Ad L W) (o : Obj) : ST w rb r A n B Ad L (W.alloc o) := h.calc_ ((Below.refl _ _).alloc (Nat.le_refl _) o)
theorem ST.drew (h : ST w rb r A n B Ad L W) : ST w rb r A n B Ad L W.drew := h.calc_ (below_drewN (Below.refl _ _) 1)
/-- another block of the call's own is written -/
theorem ST.far {g : Nat} (h : ST w rb r A n B Ad L W) (ho : Only g W W') (hg : rb < g) (hA : r.E ≠ [] → ∀ b off, A = some ⟨b, off, none⟩ → b ≠ g) : ST w rb r A n B Ad L W' := by
  have h1 := h.ge
  have h2 := h.bl
  have h3 := h.tab.lt
  have h4 := h.below.size
  have h5 := h.box.lt
  refine ⟨below_only h.below ho (by omega), h.box.grown ho (by intro e; injection e; omega), h.ge, rd_only2 h.rd ho hA, h.ne, h.cmds.below (ho.below (by omega) (by omega)), h.bl, h.len, h.tab.below (ho.below (B := rb + 1) (by omega) (by omega)) (by omega)⟩
theorem ST.step_ (h : ST w rb r A n B Ad L W) (i : Nat) (hi : i < L.length) : Calls Tryd.prog 10 #[.agg (rpV r A n), .agg (cvV (cAt L i))] W (StepPost r.s r.E r.c (cAt L i).k (cAt L i).F (cAt L i).c W) := by
  have hx := h.cmds.2 (cAt L i) (cAt_mem L i hi)
  have := step_any r.s A n r.E r.c.1 r.c.2.1 r.c.2.2 (cAt L i).k (cAt L i).A (cAt L i).n (cAt L i).F (cAt L i).c.1 (cAt L i).c.2.1 (cAt L i).c.2.2 W h.tab h.rd h.len (Rd.more hx.1 h.blt) hx.2
  exact this
end

set_option maxHeartbeats 800000 in
theorem same_eq (s c0 c1 c2 : Int) (E : List Int) (A A' : Option Addr) (n n' : Nat) (w : World) (hr : RdI w w.heap.size A E) (hr' : RdI w w.heap.size A' E) (hl : E.length ≤ 9223372036854775807) :
    Calls Tryd.prog 16 #[.agg #[.int .i64 s, .slice A E.length n, .int .i64 c0, .int .i64 c1, .int .i64 c2], .agg #[.int .i64 s, .slice A' E.length n', .int .i64 c0, .int .i64 c1, .int .i64 c2]] w (RetB true w) := by
  have HR := Lib.hid hr
  have HR' := Lib.hid hr'
  have d1 : (s != s) = false := by simp
  have d3 : ((E.length : Int) != (E.length : Int)) = false := by simp
  have HA : Hid (∀ o o2 m, Below w.heap.size w (((w.alloc o).alloc o2).drewN m)) := Lib.hid (fun o o2 m => below_drewN (((Below.refl _ _).alloc (Nat.le_refl _) _).alloc (by simp) _) m)
  clear hr hr'
  go_enter Tryd.func16, Tryd.ntmps16
  go_wp2
  go_loopw [5] (fun i wr => ∃ k : Nat, k ≤ E.length ∧ i = .int .i64 k ∧ ∃ m, wr = ((w.alloc (.cells #[.int .i64 s, .slice A E.length n, .int .i64 c0, .int .i64 c1, .int .i64 c2] 27)).alloc (.cells #[.int .i64 s, .slice A' E.length n', .int .i64 c0, .int .i64 c1, .int .i64 c2] 27)).drewN m) (fun i _ => E.length - (intOf i).toNat)
  case atStart => exact ⟨0, Nat.zero_le _, rfl, 0, rfl⟩
  case round =>
    obtain ⟨k, hk, rfl, m, rfl⟩ := hrel
    by_cases hlt : k < E.length
    · obtain ⟨b, off, rfl, hb, e1⟩ := HR.out.at_ hlt
      obtain ⟨b', off', rfl, hb', e2⟩ := HR'.out.at_ hlt
      have e3 : (at1 E k != at1 E k) = false := by simp
      go_wp2
      go_quiet (fail)
      go_wp2
      go_roundw
      case rel => exact ⟨k + 1, by omega, by go_num, _, rfl⟩
      case measure => simp [intOf]; omega
    · go_wp2
      go_ret
      exact ⟨rfl, HA.out _ _ _⟩
end Go.Proofs.YtolkdidcmingkaaDoor
