/-
  Chapter 40: the laws' loops: a run's variable, commands, and whatever else stays; one step in a region that draws its order.
-/
import Derived.Test.YtolkdidcmingkaaDoorRun11
namespace Go.Proofs.YtolkdidcmingkaaDoor
open Go.RowKit
set_option linter.unusedVariables false
set_option linter.unusedSimpArgs false

theorem blk_put5 {W : World} {m : Nat} {t : TypeId} {v0 v1 v2 v3 v4 : Value} (hb : Blk W m t #[v0, v1, v2, v3, v4]) (a b c d e : Value) : Blk (put5 W m a b c d e) m t #[a, b, c, d, e] := by
  have := ((((hb.set_ 0 a).set_ 1 b).set_ 2 c).set_ 3 d).set_ 4 e
  simpa [put5] using this
theorem bx {W w6 : World} {t : TypeId} {v0 v1 v2 v3 v4 : Value} (hb : Below (W.alloc (.cells #[v0, v1, v2, v3, v4] t)).heap.size (W.alloc (.cells #[v0, v1, v2, v3, v4] t)) w6) : Blk w6 W.heap.size t #[v0, v1, v2, v3, v4] := (Blk.new W t _).below hb (by simp)
theorem bx' {W w6 : World} {t : TypeId} {v0 v1 v2 v3 v4 : Value} (hb : Below (W.alloc (.cells #[v0, v1, v2, v3, v4] t)).drew.heap.size (W.alloc (.cells #[v0, v1, v2, v3, v4] t)).drew w6) : Blk w6 W.heap.size t #[v0, v1, v2, v3, v4] := (Blk.new W t _).drew.below hb (by simp)
/-- what stays while new blocks come, the run's variable is written, or a block behind 'hi' -/
def Stable (X : World → Prop) (rb hi : Nat) : Prop := (∀ W W', X W → Below W.heap.size W W' → X W') ∧ ∀ g W W', (g = rb ∨ hi < g) → X W → Only g W W' → X W'
structure LS (X : World → Prop) (hi : Nat) (w : World) (rb : Nat) (r : RP) (A : Option Addr) (n : Nat) (B : Nat) (Ad : Option Addr) (L : List CV) (W : World) : Prop where
  st : ST w rb r A n B Ad L W
  ex : X W
  hlt : hi < W.heap.size
  hle : rb ≤ hi
section
variable {X : World → Prop} {hi : Nat} {w W W' : World} {rb n B : Nat} {r : RP} {A Ad : Option Addr} {L : List CV}
theorem LS.calc_ (hX : Stable X rb hi) (h : LS X hi w rb r A n B Ad L W) (hb : Below W.heap.size W W') : LS X hi w rb r A n B Ad L W' := ⟨h.st.calc_ hb, hX.1 _ _ h.ex hb, Nat.lt_of_lt_of_le h.hlt hb.size, h.hle⟩
theorem LS.alloc (hX : Stable X rb hi) (h : LS X hi w rb r A n B Ad L W) (o : Obj) : LS X hi w rb r A n B Ad L (W.alloc o) := h.calc_ hX ((Below.refl _ _).alloc (Nat.le_refl _) o)
theorem LS.drew (hX : Stable X rb hi) (h : LS X hi w rb r A n B Ad L W) : LS X hi w rb r A n B Ad L W.drew := h.calc_ hX (below_drewN (Below.refl _ _) 1)
theorem LS.far {g : Nat} (hX : Stable X rb hi) (h : LS X hi w rb r A n B Ad L W) (ho : Only g W W') (hg : hi < g) (hA : r.E ≠ [] → ∀ b off, A = some ⟨b, off, none⟩ → b ≠ g) : LS X hi w rb r A n B Ad L W' :=
  ⟨h.st.far ho (by have := h.hle; omega) hA, hX.2 g _ _ (.inr hg) h.ex ho, Nat.lt_of_lt_of_le h.hlt ho.size, h.hle⟩
theorem LS.next (hX : Stable X rb hi) (h : LS X hi w rb r A n B Ad L W) {r' : RP} {A' : Option Addr} {n' : Nat} (hr : RdI W W.heap.size A' r'.E) (hne : ∀ b off, A' = some ⟨b, off, none⟩ → b ≠ rb) (hl : r'.E.length ≤ 100000) :
    LS X hi w rb r' A' n' B Ad L (put5 W rb (.int .i64 r'.s) (.slice A' r'.E.length n') (.int .i64 r'.c.1) (.int .i64 r'.c.2.1) (.int .i64 r'.c.2.2)) :=
  ⟨h.st.next hr hne hl, hX.2 rb _ _ (.inl rfl) h.ex (put5_only _ _ _ _ _ _ _), Nat.lt_of_lt_of_le h.hlt (put5_only W rb _ _ _ _ _).size, h.hle⟩
/-- the next run in its variable -/
def NX (X : World → Prop) (hi : Nat) (w : World) (rb : Nat) (r : RP) (A : Option Addr) (n : Nat) (B : Nat) (Ad : Option Addr) (L : List CV) (x : CV) (s9 s10 : Value) (W : World) : Prop :=
  ∃ m A' n', s9 = .pointer (some ⟨m, 0, none⟩) ∧ s10 = .int .i64 (erP r x) ∧ Blk W m 27 (rpV (stP r x) A' n') ∧ hi < m ∧ RdI W W.heap.size A' (stP r x).E ∧ (∀ b off, A' = some ⟨b, off, none⟩ → hi < b) ∧ (stP r x).E.length ≤ 100000 ∧ LS X hi w rb r A n B Ad L W
def StPost (X : World → Prop) (hi : Nat) (w : World) (rb : Nat) (r : RP) (A : Option Addr) (n : Nat) (B : Nat) (Ad : Option Addr) (L : List CV) (x : CV) (W : World) (e : Ending) (w' : World) : Prop :=
  ∃ A' n', e = .returned (.tuple #[.agg #[.int .i64 (stP r x).s, .slice A' (stP r x).E.length n', .int .i64 (stP r x).c.1, .int .i64 (stP r x).c.2.1, .int .i64 (stP r x).c.2.2], .int .i64 (erP r x)]) ∧ Below W.heap.size W w' ∧ RdI w' w'.heap.size A' (stP r x).E ∧ (∀ b off, A' = some ⟨b, off, none⟩ → W.heap.size ≤ b) ∧ (stP r x).E.length ≤ 100000 ∧ LS X hi w rb r A n B Ad L w'
theorem LS.step_ (hX : Stable X rb hi) (h : LS X hi w rb r A n B Ad L W) (i : Nat) (hi' : i < L.length) :
    Calls Tryd.prog 10 #[.agg #[.int .i64 r.s, .slice A r.E.length n, .int .i64 r.c.1, .int .i64 r.c.2.1, .int .i64 r.c.2.2], .agg #[.int .i64 (cAt L i).k, .slice (cAt L i).A (cAt L i).F.length (cAt L i).n, .int .i64 (cAt L i).c.1, .int .i64 (cAt L i).c.2.1, .int .i64 (cAt L i).c.2.2]] W (StPost X hi w rb r A n B Ad L (cAt L i) W) := by
  refine (h.st.step_ i hi').mono ?_
  intro e w' hsp
  obtain ⟨A', n', h1, h2, h3, h4⟩ := hsp.open_
  exact ⟨A', n', h1, h2, h3, h4, stL_len _ _ h.st.len (h.st.cmds.2 _ (cAt_mem L i hi')).2, h.calc_ hX h2⟩
/-- the variable was made after the call -/
theorem nx_new (hX : Stable X rb hi) {x : CV} {A' : Option Addr} {n' : Nat} {W0 : World} (h : LS X hi w rb r A n B Ad L W) (hr : RdI W W.heap.size A' (stP r x).E) (hf : ∀ b off, A' = some ⟨b, off, none⟩ → W0.heap.size ≤ b) (h0 : hi < W0.heap.size) (hl : (stP r x).E.length ≤ 100000) {m : Nat} (hm : m = W.heap.size) :
    NX X hi w rb r A n B Ad L x (.pointer (some ⟨m, 0, none⟩)) (.int .i64 (erP r x)) (W.alloc (.cells #[.int .i64 (stP r x).s, .slice A' (stP r x).E.length n', .int .i64 (stP r x).c.1, .int .i64 (stP r x).c.2.1, .int .i64 (stP r x).c.2.2] 27)) := by
  subst hm
  exact ⟨W.heap.size, A', n', rfl, rfl, Blk.new _ _ _, h.hlt, Rd.more (hr.below ((Below.refl _ _).alloc (Nat.le_refl _) _)) (by simp), fun b off e => by have := hf b off e; omega, hl, h.alloc hX _⟩
/-- the variable was made before the call -/
theorem nx_old (hX : Stable X rb hi) {x : CV} {A' : Option Addr} {n' m : Nat} {W0 : World} {v0 v1 v2 v3 v4 : Value} (h : LS X hi w rb r A n B Ad L W) (hA : r.E ≠ [] → ∀ b off, A = some ⟨b, off, none⟩ → b ≠ m) (hr : RdI W W.heap.size A' (stP r x).E) (hf : ∀ b off, A' = some ⟨b, off, none⟩ → W0.heap.size ≤ b) (h0 : hi < W0.heap.size) (hm0 : m < W0.heap.size) (hl : (stP r x).E.length ≤ 100000) (hb : Blk W m 27 #[v0, v1, v2, v3, v4]) (hm : hi < m) :
    NX X hi w rb r A n B Ad L x (.pointer (some ⟨m, 0, none⟩)) (.int .i64 (erP r x)) (put5 W m (.int .i64 (stP r x).s) (.slice A' (stP r x).E.length n') (.int .i64 (stP r x).c.1) (.int .i64 (stP r x).c.2.1) (.int .i64 (stP r x).c.2.2)) := by
  refine ⟨m, A', n', rfl, rfl, ?_, hm, rd_only hr (put5_only _ _ _ _ _ _ _) (fun b off e => by have := hf b off e; omega), fun b off e => by have := hf b off e; omega, hl, h.far hX (put5_only _ _ _ _ _ _ _) hm hA⟩
  exact blk_put5 hb _ _ _ _ _
end
/-- a law's beginning: commands drawn from a new deck -/
theorem law_cmds (A0 : Option Addr) (c0 m : Nat) (l0 : List Int) (w : World) (hm : m ≤ 16) (hr0 : RdI w w.heap.size A0 l0) (hl0 : l0.length ≤ 9223372036854775807) (hT : Tab w) :
    Calls Tryd.prog 14 #[.slice A0 l0.length c0] w fun e w1 => e = .returned (.pointer (some ⟨w.heap.size, 0, none⟩)) ∧
      Calls Tryd.prog 13 #[.pointer (some ⟨w.heap.size, 0, none⟩), .int .i64 (m : Int)] w1 fun e w2 => ∃ A c L, e = .returned (.slice A L.length c) ∧ L.length ≤ m ∧ RdC w2 w2.heap.size A L ∧ Below w.heap.size w w2 ∧ Tab w2 := by
  refine (new_any A0 c0 l0 w hr0 hl0).mono ?_
  rintro e w1 ⟨rfl, hb1, hD1, hs1⟩
  refine ⟨rfl, (commands_any w.heap.size m hm w1 hD1).mono ?_⟩
  rintro e w2 ⟨A, c, L, rfl, hL, hc, ho, hD⟩
  have hb2 : Below w.heap.size w w2 := hb1.trans (ho.below hb1.size (Nat.le_refl _))
  exact ⟨A, c, L, rfl, hL, hc, hb2, hT.below hb2 hT.lt⟩
end Go.Proofs.YtolkdidcmingkaaDoor
