/-
  Chapter 40: contract of commands: commands in memory of the call's own.
-/
import Derived.Test.YtolkdidcmingkaaDoorRun10
import Derived.Deep.CutBlock
namespace Go.Proofs.YtolkdidcmingkaaDoor
open Go.RowKit
set_option linter.unusedVariables false
set_option linter.unusedSimpArgs false

/-- a command's employees lie in a block of numbers of the call's own, apart from the deck -/
def EmpOk (w : World) (g : Nat) (x : CV) (W : World) : Prop := x.F.length ≤ 10 ∧ (x.F = [] ∨ ∃ b, x.A = some ⟨b, 0, none⟩ ∧ b ≠ g ∧ w.heap.size ≤ b ∧ Blk W b 3 (x.F.map (Value.int .i64)).toArray)
theorem EmpOk.only {w W W' : World} {g : Nat} {x : CV} (h : EmpOk w g x W) (ho : Only g W W') : EmpOk w g x W' := ⟨h.1, by
  rcases h.2 with h | ⟨b, h1, h2, h3, h4⟩
  · exact .inl h
  · exact .inr ⟨b, h1, h2, h3, h4.grown ho (by intro e; injection e; omega)⟩⟩
theorem EmpOk.calc_ {w W W' : World} {g : Nat} {x : CV} (h : EmpOk w g x W) (hb : Below W.heap.size W W') : EmpOk w g x W' := ⟨h.1, by
  rcases h.2 with h | ⟨b, h1, h2, h3, h4⟩
  · exact .inl h
  · exact .inr ⟨b, h1, h2, h3, h4.below hb h4.lt⟩⟩
/-- another block is written, of another type -/
theorem EmpOk.typed {w W W' : World} {g q : Nat} {x : CV} {t : TypeId} {cs : Array Value} {fr : Nat × Nat} (h : EmpOk w g x W) (ho : Only q W W') (hq : W.heap[q]? = some (.cells cs t fr)) (ht : t ≠ 3) : EmpOk w g x W' := ⟨h.1, by
  rcases h.2 with h | ⟨b, h1, h2, h3, h4⟩
  · exact .inl h
  · refine .inr ⟨b, h1, h2, h3, h4.grown ho (by
      intro e
      injection e with e
      subst e
      unfold Blk at h4
      rw [h4] at hq
      injection hq with hq
      injection hq with _ hq
      exact ht hq.symm)⟩⟩
theorem EmpOk.rd {w W : World} {g : Nat} {x : CV} (h : EmpOk w g x W) : RdI W W.heap.size x.A x.F := by
  rcases h.2 with h | ⟨b, h1, h2, h3, h4⟩
  · rw [h]; exact Rd.none_
  · intro hn
    refine ⟨b, 0, h1, h4.lt, fun i j hi hj => ?_⟩
    have hj0 : j = 0 := by omega
    subst hj0
    have := h4.cell i
    simp only [Nat.zero_add, Nat.mul_one, Nat.add_zero]
    rw [this]
    simp [at1, hi]

theorem infoRC : (Tryd.prog.info? 32).map (fun i => (i.zero, i.size, i.bytes)) = some (some (.agg #[.int .i64 0, .slice none 0 0, .int .i64 0, .int .i64 0, .int .i64 0]), 5, 56) := by kernel_rfl
theorem only_bel' {w W W' : World} {g : Nat} (h : Only g w W) (hb : Below w.heap.size W W') : Only g w W' :=
  ⟨hb.os.trans h.os, hb.tape.trans h.tape, hb.output.trans h.output, Nat.le_trans h.size hb.size, fun i hi hne => (hb.block i hi).trans (h.block i hi hne)⟩
/-- in the middle of the drawing -/
structure CS (w : World) (g : Nat) (M : Int) (A : Option Addr) (c : Nat) (L : List CV) (W : World) : Prop where
  deck : Deck W g M
  only : Only g w W
  own : W.ownsRow w.heap.size 32 5 (.slice A L.length c) L.length (flat5 L)
  emp : ∀ x ∈ L, EmpOk w g x W
  bc : Blk W w.heap.size 25 #[.int .i64 2, .int .i64 300, .int .i64 3]
/-- with the command under way in a variable at block xb -/
structure CX (w : World) (g : Nat) (M : Int) (A : Option Addr) (c : Nat) (L : List CV) (xb : Nat) (x : CV) (W : World) : Prop where
  cs : CS w g M A c L W
  box : Blk W xb 32 (cvV x)
  emp : EmpOk w g x W
  lo : 0 ≤ x.c.2.1 ∧ x.c.2.1 ≤ 500
  ge : w.heap.size < xb
  ne : (Value.slice A L.length c).ownBlock ≠ some xb
section
variable {w W W' : World} {g c xb : Nat} {M M' : Int} {A : Option Addr} {L : List CV} {x : CV}
theorem CS.draw (h : CS w g M A c L W) (hgl : g < w.heap.size) (ho : Only g W W') (hD : Deck W' g M') : CS w g M' A c L W' :=
  ⟨hD, h.only.trans ho, World.ownsRow.kept h.own ho (.inr (fun e => by have := (World.ownsRow.lt h.own g e).1; omega)), fun x hx => (h.emp x hx).only ho, h.bc.grown ho (by intro e; injection e; omega)⟩
theorem CS.calc_ (h : CS w g M A c L W) (hgl : g < w.heap.size) (hb : Below W.heap.size W W') : CS w g M A c L W' :=
  h.draw hgl (Only.of_below hb g) (h.deck.below hb h.deck.lt)
theorem CS.lt (h : CS w g M A c L W) : w.heap.size < W.heap.size := h.bc.lt
theorem CX.draw (h : CX w g M A c L xb x W) (hgl : g < w.heap.size) (ho : Only g W W') (hD : Deck W' g M') : CX w g M' A c L xb x W' :=
  ⟨h.cs.draw hgl ho hD, h.box.grown ho (by intro e; injection e with e; have := h.ge; omega), h.emp.only ho, h.lo, h.ge, h.ne⟩
theorem CX.calc_ (h : CX w g M A c L xb x W) (hgl : g < w.heap.size) (hb : Below W.heap.size W W') : CX w g M A c L xb x W' :=
  ⟨h.cs.calc_ hgl hb, h.box.below hb h.box.lt, h.emp.calc_ hb, h.lo, h.ge, h.ne⟩
theorem CX.start (h : CS w g M A c L W) (hgl : g < w.heap.size) (k a b d : Int) (hb : 0 ≤ b ∧ b ≤ 500) : CX w g M A c L W.heap.size ⟨k, none, 0, [], (a, b, d)⟩ (W.alloc (.cells #[.int .i64 k, .slice none 0 0, .int .i64 a, .int .i64 b, .int .i64 d] 32)) :=
  ⟨h.calc_ hgl ((Below.refl _ _).alloc (Nat.le_refl _) _), Blk.new _ _ _, ⟨by simp, .inl rfl⟩, hb, h.lt, fun e => by have := (World.ownsRow.lt h.own _ e).2; omega⟩
theorem CX.more (h : CX w g M A c L xb x W) (hM : M ≤ M') : CX w g M' A c L xb x W := ⟨⟨h.cs.deck.more hM, h.cs.only, h.cs.own, h.cs.emp, h.cs.bc⟩, h.box, h.emp, h.lo, h.ge, h.ne⟩
/-- the variable is written -/
theorem CX.put (h : CX w g M A c L xb x W) (hgl : g < w.heap.size) (ho : Only xb W W') {x' : CV} (hbox : Blk W' xb 32 (cvV x')) (he : EmpOk w g x' W) (hlo : 0 ≤ x'.c.2.1 ∧ x'.c.2.1 ≤ 500) : CX w g M A c L xb x' W' := by
  have h1 := h.ge
  have h2 := h.box.lt
  have hq : W.heap[xb]? = some (.cells (cvV x) 32 (0, 0)) := h.box
  refine ⟨⟨h.cs.deck.only ho (by omega), ?_, World.ownsRow.kept h.cs.own ho (.inr h.ne), fun y hy => (h.cs.emp y hy).typed ho hq (by decide), h.cs.bc.grown ho (by intro e; injection e; omega)⟩, hbox, he.typed ho hq (by decide), hlo, h.ge, h.ne⟩
  exact only_bel' h.cs.only (ho.below (by have := h.cs.only.size; omega) (by omega))
end
def CmdsPost (g : Nat) (M : Int) (m : Nat) (w : World) (e : Ending) (w' : World) : Prop :=
  ∃ A c L, e = .returned (.slice A L.length c) ∧ L.length ≤ m ∧ RdC w' w'.heap.size A L ∧ Only g w w' ∧ Deck w' g M

theorem CX.alloc {w W : World} {g c xb : Nat} {M : Int} {A : Option Addr} {L : List CV} {x : CV} (h : CX w g M A c L xb x W) (hgl : g < w.heap.size) (o : Obj) : CX w g M A c L xb x (W.alloc o) := h.calc_ hgl ((Below.refl _ _).alloc (Nat.le_refl _) o)
theorem wpList_append_sg {P : Program} (w : World) {ops : Array Oper} {rest : List Oper} {o : Oper} {a : Act} {Q : Exit → Act → World → Prop} (hgd : o.guard = none) (s x : Operand) (t : TypeId)
    (ho : o.op = .call { callee := .builtin .append, args := #[s, x], argTypes := #[t, t] })
    (base : Nat) (e : TypeId) (i : TypeInfo) (z : Value) (size bytes : Nat) (ht : P.underlying t = some (.slice e)) (hi : P.info? e = some i) (hz : i.zero = some z)
    (hsize : i.size = size) (hby : i.bytes = bytes) (hzs : z.cells.size = size) (hsz : 0 < size)
    (A : Option Addr) (c n : Nat) (xs : List Value) (hs : a.eval s = .slice A n c) (hown : w.ownsRow base e size (.slice A n c) n xs)
    (ad : Addr) (m c2 : Nat) (news : List Value) (hx : a.eval x = .slice (some ad) m c2) (hl : news.length = m * size) (hnews : ∀ j u, news[j]? = some u → w.cell? (ad.add j) = some u) (h1 : ∀ u ∈ news, u.oneCell' = true)
    (h63 : n + m ≤ maxLen) (hbytes : (n + m) * bytes ≤ 140737488355328) (hbase : base ≤ w.heap.size)
    (h : ∀ A' c' w', w'.ownsRow base e size (.slice A' (n + m) c') (n + m) (xs ++ news) → Below base w w' → w.grownBy w' (Value.slice A n c).ownBlock → wpList P ops Q rest (a.put o.dst (.slice A' (n + m) c')) w') : wpList P ops Q (o :: rest) a w :=
  wpList_append_own w hgd s x t ho base e i z size bytes ht hi hz hsize hby hzs hsz _ n xs hs hown ad m c2 news hx hl hnews h1 h63 hbytes hbase (fun v' w' h2 h3 _ => by
    obtain ⟨A', c', rfl⟩ := own_slice h2
    exact h A' c' w' h2 ((Below.refl base w).grown h3 hbase (fun k hk => (hown.lt k hk).1)) h3)
/-- a command is appended -/
theorem CX.app {w W W' : World} {g c xb c' : Nat} {M : Int} {A A' : Option Addr} {L : List CV} {x : CV} {ob : Obj} (h : CX w g M A c L xb x W) (hgl : g < w.heap.size)
    (hown : W'.ownsRow w.heap.size 32 5 (.slice A' (L.length + 1) c') (L.length + 1) (flat5 L ++ [.int .i64 x.k, .slice x.A x.F.length x.n, .int .i64 x.c.1, .int .i64 x.c.2.1, .int .i64 x.c.2.2])) (hgr : (W.alloc ob).grownBy W' (Value.slice A L.length c).ownBlock) :
    CS w g M A' c' (L ++ [x]) W' := by
  have ha := h.alloc hgl ob
  have hb : Below w.heap.size (W.alloc ob) W' := (Below.refl _ _).grown hgr (by have := h.cs.lt; simp; omega) (fun k hk => (World.ownsRow.lt h.cs.own k hk).1)
  have hemp : ∀ y, EmpOk w g y (W.alloc ob) → EmpOk w g y W' := by
    intro y hy
    refine ⟨hy.1, ?_⟩
    rcases hy.2 with h | ⟨b, h1, h2, h3, h4⟩
    · exact .inl h
    · refine .inr ⟨b, h1, h2, h3, h4.grown hgr (fun e => ?_)⟩
      rcases ha.cs.own.2 with ⟨e1, _⟩ | ⟨q, cap, cur, e1, _, hq, _⟩
      · rw [e1] at e; cases e
      · rw [e1] at e
        injection e with e
        have e' : b = q := e
        subst e'
        unfold Blk at h4
        rw [h4] at hq
        injection hq with hq
        injection hq with _ hq
        exact absurd hq (by decide)
  refine ⟨ha.cs.deck.below hb hgl, only_bel' ha.cs.only hb, ?_, fun y hy => ?_, ?_⟩
  · rw [flat5_snoc, List.length_append]
    exact hown
  · rw [List.mem_append] at hy
    rcases hy with hy | hy
    · exact hemp y (ha.cs.emp y hy)
    · simp at hy; subst hy; exact hemp _ ha.emp
  · refine ha.cs.bc.grown hgr (fun e => ?_)
    rcases ha.cs.own.2 with ⟨e1, _⟩ | ⟨q, cap, cur, e1, _, hq, _⟩
    · rw [e1] at e; cases e
    · rw [e1] at e
      injection e with e
      have e' : w.heap.size = q := e
      have h4 := ha.cs.bc
      unfold Blk at h4
      rw [e', hq] at h4
      injection h4 with h4
      injection h4 with _ h4
      exact absurd h4 (by decide)
theorem cmds_end {w W : World} {g c m : Nat} {M : Int} {A : Option Addr} {L : List CV} (h : CS w g M A c L W) (hL : L.length ≤ m) (hM : M ≤ 1000) : CmdsPost g 1000 m w (.returned (.slice A L.length c)) W := by
  refine ⟨A, c, L, rfl, hL, ⟨?_, fun x hx => ⟨(h.emp x hx).rd, by have := (h.emp x hx).1; omega⟩⟩, h.only, h.deck.more hM⟩
  intro hn
  obtain ⟨q, cap, hv, _, hlt⟩ := h.own.form hn
  injection hv with hA _ _
  subst hA
  refine ⟨q, 0, rfl, hlt, fun i j hi hj => ?_⟩
  have := h.own.cells (g := q) rfl (i * 5 + j) _ (flat5_get L i j hi hj)
  simpa [Go.WideShapes.add_plain] using this
theorem pick_at (g : Nat) (N : Int) (l : List Int) (w : World) (gs : Nat) (hgs : gs = w.heap.size) (t : TypeId) (c : Nat) (hD : Deck w g N) (hN : N ≤ 1000000) (h0 : 0 < l.length) (hl : l.length ≤ 1000000) :
    Calls Tryd.prog 30 #[.pointer (some ⟨g, 0, none⟩), .slice (some ⟨gs, 0, none⟩) l.length c] (w.alloc (.cells (l.map (Value.int .i64)).toArray t)) (DeckInt (fun v => v ∈ l) g (N + 1) w) := by
  subst hgs
  exact pick_new g N l w t c hD hN h0 hl
theorem only1 (W : World) (q i : Nat) (v : Value) : Only q W (W.setCell ⟨q, i, none⟩ v) := (Only.refl q W).setCell (p := ⟨q, i, none⟩) (.inl rfl) _
theorem CX.setF {w W : World} {g c xb : Nat} {M : Int} {A : Option Addr} {L : List CV} {x : CV} (h : CX w g M A c L xb x W) (hgl : g < w.heap.size) (A' : Option Addr) (n' : Nat) (F' : List Int) (he : EmpOk w g ⟨x.k, A', n', F', x.c⟩ W) :
    CX w g M A c L xb ⟨x.k, A', n', F', x.c⟩ (W.setCell ⟨xb, 1, none⟩ (.slice A' F'.length n')) := by
  refine h.put hgl (only1 _ _ _ _) ?_ he h.lo
  have := h.box.set_ 1 (.slice A' F'.length n')
  simpa [cvV] using this
theorem CX.setS {w W : World} {g c xb : Nat} {M : Int} {A : Option Addr} {L : List CV} {x : CV} (h : CX w g M A c L xb x W) (hgl : g < w.heap.size) (v : Int) (hv : 0 ≤ v ∧ v ≤ 500) :
    CX w g M A c L xb ⟨x.k, x.A, x.n, x.F, (x.c.1, v, x.c.2.2)⟩ (W.setCell ⟨xb, 3, none⟩ (.int .i64 v)) := by
  refine h.put hgl (only1 _ _ _ _) ?_ ⟨h.emp.1, h.emp.2⟩ hv
  have := h.box.set_ 3 (.int .i64 v)
  simpa [cvV] using this
theorem CX.setN {w W : World} {g c xb : Nat} {M : Int} {A : Option Addr} {L : List CV} {x : CV} (h : CX w g M A c L xb x W) (hgl : g < w.heap.size) (v : Int) :
    CX w g M A c L xb ⟨x.k, x.A, x.n, x.F, (v, x.c.2.1, x.c.2.2)⟩ (W.setCell ⟨xb, 2, none⟩ (.int .i64 v)) := by
  refine h.put hgl (only1 _ _ _ _) ?_ ⟨h.emp.1, h.emp.2⟩ h.lo
  have := h.box.set_ 2 (.int .i64 v)
  simpa [cvV] using this
theorem CX.setC {w W : World} {g c xb : Nat} {M : Int} {A : Option Addr} {L : List CV} {x : CV} (h : CX w g M A c L xb x W) (hgl : g < w.heap.size) (a b d : Int) (hb : 0 ≤ b ∧ b ≤ 500) :
    CX w g M A c L xb ⟨x.k, x.A, x.n, x.F, (a, b, d)⟩ (((W.setCell ⟨xb, 2, none⟩ (.int .i64 a)).setCell ⟨xb, 3, none⟩ (.int .i64 b)).setCell ⟨xb, 4, none⟩ (.int .i64 d)) := by
  refine h.put hgl (((Only.refl xb W).setCell (p := ⟨xb, 2, none⟩) (.inl rfl) _).setCell (p := ⟨xb, 3, none⟩) (.inl rfl) _ |>.setCell (p := ⟨xb, 4, none⟩) (.inl rfl) _) ?_ ⟨h.emp.1, h.emp.2⟩ hb
  have := ((h.box.set_ 2 (.int .i64 a)).set_ 3 (.int .i64 b)).set_ 4 (.int .i64 d)
  simpa [cvV] using this

set_option maxHeartbeats 6400000 in
set_option maxRecDepth 100000 in
theorem commands_any (g : Nat) (m : Nat) (hm : m ≤ 16) (w : World) (hD : Deck w g 0) : Calls Tryd.prog 13 #[.pointer (some ⟨g, 0, none⟩), .int .i64 (m : Int)] w (CmdsPost g 1000 m w) := by
  have hgl := hD.lt
  obtain ⟨i0, hi, hz0, hz1, hz2⟩ := info_parts infoRC
  have HC0 : Hid (CS w g 0 none 0 [] (w.alloc (.cells #[.int .i64 2, .int .i64 300, .int .i64 3] 25))) := Lib.hid ⟨hD.alloc _, (Only.refl g w).alloc _, World.ownsRow_nil _ _ _ _, fun x hx => by simp at hx, Blk.new _ _ _⟩
  clear hD
  go_enter Tryd.func13, Tryd.ntmps13
  go_wp2
  go_loopw [6, 7, 8] (fun v i _ wr => ∃ (k : Nat) (A : Option Addr) (c : Nat) (L : List CV), k ≤ m ∧ i = .int .i64 k ∧ v = .slice A L.length c ∧ L.length = k ∧ CS w g (10 * (k : Int)) A c L wr) (fun _ i _ _ => m - (intOf i).toNat)
  case atStart => exact ⟨0, none, 0, [], Nat.zero_le _, rfl, rfl, rfl, HC0.out⟩
  case round =>
    obtain ⟨k, A, c, L, hk, rfl, rfl, hLk, hcs⟩ := hrel
    have HLK := Lib.hid hLk
    have HCS := Lib.hid hcs
    clear hLk hcs HC0
    by_cases hlt : k < m
    · have dl : decide ((k : Int) < (m : Int)) = true := by simp; omega
      have dl' : decide (k < m) = true := by simpa using hlt
      go_wp2_with fail
      refine (left_any g _ _ HCS.out.deck (by omega)).mono ?_
      rintro e w1 ⟨b, rfl, ho, hD⟩
      have HCS := Lib.hid (HCS.out.draw hgl ho hD)
      clear ho hD
      cases b
      · go_wp2
        go_ret
        exact cmds_end HCS.out (by have := HLK.out; omega) (by omega)
      · go_wp2_with fail
        refine (next_any g _ _ _ HCS.out.deck (by omega) (by omega) (by omega)).mono ?_
        rintro e w2 ⟨v, rfl, hv, ho, hD⟩
        have HCS := Lib.hid (HCS.out.draw hgl ho hD)
        have HCX := Lib.hid (CX.start HCS.out hgl (1 + v) 0 0 0 (by omega))
        have hw2 := HCS.out.lt
        clear ho hD
        go_upto_block 2 with (fail)
        go_cut [] (fun wx => ∃ x, x.c.2.1 ≤ 400 ∧ CX w g (10 * (k : Int) + 4) A c L w2.heap.size x wx)
        case first =>
          have hv6 : v = 0 ∨ v = 1 ∨ v = 2 ∨ v = 3 ∨ v = 4 ∨ v = 5 := by omega
          rcases hv6 with rfl | rfl | rfl | rfl | rfl | rfl
          · have HP : Hid (∀ W, CX w g (10 * (k : Int) + 1) A c L w2.heap.size ⟨1, none, 0, [], (0, 0, 0)⟩ W → ∀ gs, gs = W.heap.size → Calls Tryd.prog 30 #[.pointer (some ⟨g, 0, none⟩), .slice (some ⟨gs, 0, none⟩) 7 7] (W.alloc (.cells #[.int .i64 0, .int .i64 0, .int .i64 1, .int .i64 1, .int .i64 2, .int .i64 3, .int .i64 4] 3)) (DeckInt (fun v => v ∈ [0, 0, 1, 1, 2, 3, 4]) g (10 * (k : Int) + 1 + 1) W)) := Lib.hid (fun W h gs hgs => pick_at g (10 * (k : Int) + 1) [0, 0, 1, 1, 2, 3, 4] W gs hgs 3 7 h.cs.deck (by omega) (by simp) (by simp))
            obtain ⟨W6, hW6⟩ : ∃ W6, W6 = ((((((w2.alloc (.cells #[.int .i64 1, .slice none 0 0, .int .i64 0, .int .i64 0, .int .i64 0] 32)).alloc (.cells #[.int .i64 1, .int .i64 2] 3)).alloc (.cells #[.int .i64 1, .int .i64 2, .int .i64 7] 3)).alloc (.cells #[.int .i64 2, .int .i64 1] 3)).alloc (.cells #[] 3)).alloc (.cells #[.int .i64 2147483647] 3)).alloc (.cells #[.slice (some ⟨w2.heap.size + 1, 0, none⟩) 2 2, .slice (some ⟨w2.heap.size + 1 + 1, 0, none⟩) 3 3, .slice (some ⟨w2.heap.size + 1 + 1 + 1, 0, none⟩) 2 2, .slice (some ⟨w2.heap.size + 1 + 1 + 1 + 1, 0, none⟩) 0 0, .slice (some ⟨w2.heap.size + 1 + 1 + 1 + 1 + 1, 0, none⟩) 1 1] 23) := ⟨_, rfl⟩
            have HX6 : Hid (CX w g (10 * (k : Int) + 1) A c L w2.heap.size ⟨1, none, 0, [], (0, 0, 0)⟩ W6) := Lib.hid (by rw [hW6]; exact (((((HCX.out.alloc hgl _).alloc hgl _).alloc hgl _).alloc hgl _).alloc hgl _).alloc hgl _)
            have HW6 : Hid (W6.heap.size = w2.heap.size + 1 + 1 + 1 + 1 + 1 + 1 + 1) := Lib.hid (by rw [hW6]; simp)
            have HB1 : Hid (Blk W6 (w2.heap.size + 1) 3 #[.int .i64 1, .int .i64 2]) := Lib.hid (by rw [hW6]; exact (((((Blk.new' (by simp)).alloc _).alloc _).alloc _).alloc _).alloc _)
            have HB2 : Hid (Blk W6 (w2.heap.size + 1 + 1) 3 #[.int .i64 1, .int .i64 2, .int .i64 7]) := Lib.hid (by rw [hW6]; exact ((((Blk.new' (by simp)).alloc _).alloc _).alloc _).alloc _)
            have HB3 : Hid (Blk W6 (w2.heap.size + 1 + 1 + 1) 3 #[.int .i64 2, .int .i64 1]) := Lib.hid (by rw [hW6]; exact (((Blk.new' (by simp)).alloc _).alloc _).alloc _)
            have HB5 : Hid (Blk W6 (w2.heap.size + 1 + 1 + 1 + 1 + 1) 3 #[.int .i64 2147483647]) := Lib.hid (by rw [hW6]; exact (Blk.new' (by simp)).alloc _)
            have HB6 : Hid (Blk W6 (w2.heap.size + 1 + 1 + 1 + 1 + 1 + 1) 23 #[.slice (some ⟨w2.heap.size + 1, 0, none⟩) 2 2, .slice (some ⟨w2.heap.size + 1 + 1, 0, none⟩) 3 3, .slice (some ⟨w2.heap.size + 1 + 1 + 1, 0, none⟩) 2 2, .slice (some ⟨w2.heap.size + 1 + 1 + 1 + 1, 0, none⟩) 0 0, .slice (some ⟨w2.heap.size + 1 + 1 + 1 + 1 + 1, 0, none⟩) 1 1]) := Lib.hid (by rw [hW6]; exact Blk.new' (by simp))
            go_wp2_with fail
            rw [← hW6]
            clear hW6
            refine (HP.out W6 HX6.out (w2.heap.size + 1 + 1 + 1 + 1 + 1 + 1 + 1) HW6.out.symm).mono ?_
            rintro e w3 ⟨p, rfl, hp, ho, hD⟩
            have HX7 := Lib.hid (HX6.out.draw hgl ho hD)
            have y1 := HX7.out.box.cell 1
            have f1 := HX7.out.box.frozen 1
            simp [cvV] at y1
            have q := fun i => ((HB6.out.grown ho (by intro e; injection e; omega)).cell i)
            have G1 := Lib.hid (HB1.out.grown ho (by intro e; injection e; omega))
            have G2 := Lib.hid (HB2.out.grown ho (by intro e; injection e; omega))
            have G3 := Lib.hid (HB3.out.grown ho (by intro e; injection e; omega))
            have G5 := Lib.hid (HB5.out.grown ho (by intro e; injection e; omega))
            have q0 := q 0
            have q1 := q 1
            have q2 := q 2
            have q3 := q 3
            have q4 := q 4
            simp at q0 q1 q2 q3 q4
            have hws := HCS.out.lt
            clear ho hD q HP HX6 HB1 HB2 HB3 HB5 HB6
            have hp5 : p = 0 ∨ p = 1 ∨ p = 2 ∨ p = 3 ∨ p = 4 := by simp at hp; omega
            clear hp
            rcases hp5 with rfl | rfl | rfl | rfl | rfl
            · go_wp2_with fail
              go_meet
              exact ⟨_, by simp, (HX7.out.setF hgl (some ⟨w2.heap.size + 1, 0, none⟩) 2 [1, 2] ⟨by simp, .inr ⟨w2.heap.size + 1, rfl, by omega, by omega, G1.out⟩⟩).more (by omega)⟩
            · go_wp2_with fail
              go_meet
              exact ⟨_, by simp, (HX7.out.setF hgl (some ⟨w2.heap.size + 1 + 1, 0, none⟩) 3 [1, 2, 7] ⟨by simp, .inr ⟨w2.heap.size + 1 + 1, rfl, by omega, by omega, G2.out⟩⟩).more (by omega)⟩
            · go_wp2_with fail
              go_meet
              exact ⟨_, by simp, (HX7.out.setF hgl (some ⟨w2.heap.size + 1 + 1 + 1, 0, none⟩) 2 [2, 1] ⟨by simp, .inr ⟨w2.heap.size + 1 + 1 + 1, rfl, by omega, by omega, G3.out⟩⟩).more (by omega)⟩
            · go_wp2_with fail
              go_meet
              exact ⟨_, by simp, (HX7.out.setF hgl (some ⟨w2.heap.size + 1 + 1 + 1 + 1, 0, none⟩) 0 [] ⟨by simp, .inl rfl⟩).more (by omega)⟩
            · go_wp2_with fail
              go_meet
              exact ⟨_, by simp, (HX7.out.setF hgl (some ⟨w2.heap.size + 1 + 1 + 1 + 1 + 1, 0, none⟩) 1 [2147483647] ⟨by simp, .inr ⟨w2.heap.size + 1 + 1 + 1 + 1 + 1, rfl, by omega, by omega, G5.out⟩⟩).more (by omega)⟩
          · have bc0 := HCS.out.bc.cell 0
            have bc1 := HCS.out.bc.cell 1
            have bc2 := HCS.out.bc.cell 2
            simp at bc0 bc1 bc2
            have HCX := Lib.hid (CX.start HCS.out hgl 2 2 300 3 (by omega))
            go_wp2_with fail
            refine (next_any g _ _ _ HCX.out.cs.deck (by omega) (by omega) (by omega)).mono ?_
            rintro e w3 ⟨u, rfl, hu, ho, hD⟩
            have HCX := Lib.hid (HCX.out.draw hgl ho hD)
            clear ho hD bc0 bc1 bc2
            have y2 := HCX.out.box.cell 2
            have y3 := HCX.out.box.cell 3
            have y4 := HCX.out.box.cell 4
            have f2 := HCX.out.box.frozen 2
            have f3 := HCX.out.box.frozen 3
            have f4 := HCX.out.box.frozen 4
            simp [cvV] at y2 y3 y4
            have hu4 : u = 0 ∨ u = 1 ∨ u = 2 ∨ 3 ≤ u := by omega
            rcases hu4 with rfl | rfl | rfl | hu3
            · go_wp2_with fail
              go_meet
              exact ⟨_, by simp, (HCX.out.setC hgl 0 0 0 (by omega)).more (by omega)⟩
            · go_wp2_with fail
              go_meet
              exact ⟨_, by simp, (HCX.out.setS hgl 301 (by omega)).more (by omega)⟩
            · go_wp2_with fail
              go_meet
              exact ⟨_, by simp, (HCX.out.setN hgl 4).more (by omega)⟩
            · have t0 : (u == 0) = false := by simp only [beq_eq_false_iff_ne, ne_eq]; omega
              have t1 : (u == 1) = false := by simp only [beq_eq_false_iff_ne, ne_eq]; omega
              have t2 : (u == 2) = false := by simp only [beq_eq_false_iff_ne, ne_eq]; omega
              go_wp2_with fail
              go_meet
              exact ⟨_, by simp, HCX.out.more (by omega)⟩
          · have bc0 := HCS.out.bc.cell 0
            have bc1 := HCS.out.bc.cell 1
            have bc2 := HCS.out.bc.cell 2
            simp at bc0 bc1 bc2
            have HCX := Lib.hid (CX.start HCS.out hgl 3 2 300 3 (by omega))
            go_wp2_with fail
            refine (next_any g _ _ _ HCX.out.cs.deck (by omega) (by omega) (by omega)).mono ?_
            rintro e w3 ⟨u, rfl, hu, ho, hD⟩
            have HCX := Lib.hid (HCX.out.draw hgl ho hD)
            clear ho hD bc0 bc1 bc2
            have y2 := HCX.out.box.cell 2
            have y3 := HCX.out.box.cell 3
            have y4 := HCX.out.box.cell 4
            have f2 := HCX.out.box.frozen 2
            have f3 := HCX.out.box.frozen 3
            have f4 := HCX.out.box.frozen 4
            simp [cvV] at y2 y3 y4
            have hu4 : u = 0 ∨ u = 1 ∨ u = 2 ∨ 3 ≤ u := by omega
            rcases hu4 with rfl | rfl | rfl | hu3
            · go_wp2_with fail
              go_meet
              exact ⟨_, by simp, (HCX.out.setC hgl 0 0 0 (by omega)).more (by omega)⟩
            · go_wp2_with fail
              go_meet
              exact ⟨_, by simp, (HCX.out.setS hgl 301 (by omega)).more (by omega)⟩
            · go_wp2_with fail
              go_meet
              exact ⟨_, by simp, (HCX.out.setN hgl 4).more (by omega)⟩
            · have t0 : (u == 0) = false := by simp only [beq_eq_false_iff_ne, ne_eq]; omega
              have t1 : (u == 1) = false := by simp only [beq_eq_false_iff_ne, ne_eq]; omega
              have t2 : (u == 2) = false := by simp only [beq_eq_false_iff_ne, ne_eq]; omega
              go_wp2_with fail
              go_meet
              exact ⟨_, by simp, HCX.out.more (by omega)⟩
          · have bc0 := HCS.out.bc.cell 0
            have bc1 := HCS.out.bc.cell 1
            have bc2 := HCS.out.bc.cell 2
            simp at bc0 bc1 bc2
            have HCX := Lib.hid (CX.start HCS.out hgl 4 2 300 3 (by omega))
            go_wp2_with fail
            refine (next_any g _ _ _ HCX.out.cs.deck (by omega) (by omega) (by omega)).mono ?_
            rintro e w3 ⟨u, rfl, hu, ho, hD⟩
            have HCX := Lib.hid (HCX.out.draw hgl ho hD)
            clear ho hD bc0 bc1 bc2
            have y2 := HCX.out.box.cell 2
            have y3 := HCX.out.box.cell 3
            have y4 := HCX.out.box.cell 4
            have f2 := HCX.out.box.frozen 2
            have f3 := HCX.out.box.frozen 3
            have f4 := HCX.out.box.frozen 4
            simp [cvV] at y2 y3 y4
            have hu4 : u = 0 ∨ u = 1 ∨ u = 2 ∨ 3 ≤ u := by omega
            rcases hu4 with rfl | rfl | rfl | hu3
            · go_wp2_with fail
              go_meet
              exact ⟨_, by simp, (HCX.out.setC hgl 0 0 0 (by omega)).more (by omega)⟩
            · go_wp2_with fail
              go_meet
              exact ⟨_, by simp, (HCX.out.setS hgl 301 (by omega)).more (by omega)⟩
            · go_wp2_with fail
              go_meet
              exact ⟨_, by simp, (HCX.out.setN hgl 4).more (by omega)⟩
            · have t0 : (u == 0) = false := by simp only [beq_eq_false_iff_ne, ne_eq]; omega
              have t1 : (u == 1) = false := by simp only [beq_eq_false_iff_ne, ne_eq]; omega
              have t2 : (u == 2) = false := by simp only [beq_eq_false_iff_ne, ne_eq]; omega
              go_wp2_with fail
              go_meet
              exact ⟨_, by simp, HCX.out.more (by omega)⟩
          · go_wp2_with fail
            go_meet
            exact ⟨_, by simp, HCX.out.more (by omega)⟩
          · go_wp2_with fail
            go_meet
            exact ⟨_, by simp, HCX.out.more (by omega)⟩
        case rest =>
          obtain ⟨x, h400, hcx⟩ := hcut
          have HCX := Lib.hid hcx
          clear hcx
          go_wp2_with fail
          refine (next_any g _ _ _ HCX.out.cs.deck (by omega) (by omega) (by omega)).mono ?_
          rintro e w4 ⟨u, rfl, hu, ho, hD⟩
          have HCX := Lib.hid (HCX.out.draw hgl ho hD)
          clear ho hD
          generalize w2.heap.size = xb at *
          go_upto_if 65 with (fail)
          go_cut [] (fun wx => ∃ x, CX w g (10 * (k : Int) + 5) A c L xb x wx)
          case first =>
            have y3 := HCX.out.box.cell 3
            have f3 := HCX.out.box.frozen 3
            simp [cvV] at y3
            obtain ⟨lo1, lo2⟩ := HCX.out.lo
            by_cases hu0 : u = 0
            · subst hu0
              go_wp2_with fail
              go_meet
              exact ⟨_, (HCX.out.setS hgl (x.c.2.1 + 1) (by omega)).more (by omega)⟩
            · have t0 : (u == 0) = false := by simpa using hu0
              go_wp2_with fail
              go_meet
              exact ⟨_, HCX.out.more (by omega)⟩
          case rest =>
            obtain ⟨x, hcx⟩ := hcut
            have HCX := Lib.hid hcx
            clear hcx
            go_wp2_with fail
            refine (next_any g _ _ _ HCX.out.cs.deck (by omega) (by omega) (by omega)).mono ?_
            rintro e w5 ⟨u, rfl, hu, ho, hD⟩
            have HCX := Lib.hid (HCX.out.draw hgl ho hD)
            clear ho hD
            go_upto_if 74 with (fail)
            go_cut [] (fun wx => ∃ x, CX w g (10 * (k : Int) + 6) A c L xb x wx)
            case first =>
              have y1 := HCX.out.box.cell 1
              have f1 := HCX.out.box.frozen 1
              simp [cvV] at y1
              have hxl := HCX.out.box.lt
              by_cases hu0 : u = 0
              · subst hu0
                have HX8 := Lib.hid ((HCX.out.alloc hgl (.cells #[.int .i64 3] 3)).setF hgl (some ⟨w5.heap.size, 0, none⟩) 1 [3] ⟨by simp, .inr ⟨w5.heap.size, rfl, by have := HCX.out.cs.deck.lt; omega, by have := HCX.out.cs.lt; omega, Blk.new _ _ _⟩⟩)
                go_wp2_with fail
                go_meet
                rw [World.setCell_alloc_past _ xb 1 _ hxl] at HX8
                exact ⟨_, HX8.out.more (by omega)⟩
              · have t0 : (u == 0) = false := by simpa using hu0
                go_wp2_with fail
                go_meet
                exact ⟨_, HCX.out.more (by omega)⟩
            case rest =>
              obtain ⟨x, hcx⟩ := hcut
              have HCX := Lib.hid hcx
              clear hcx
              have y0 := HCX.out.box.cell 0
              have y1 := HCX.out.box.cell 1
              have y2 := HCX.out.box.cell 2
              have y3 := HCX.out.box.cell 3
              have y4 := HCX.out.box.cell 4
              simp [cvV] at y0 y1 y2 y3 y4
              have hLb : L.length ≤ 16 := by have := HLK.out; omega
              have hbs := HCX.out.cs.lt
              go_wp2_with (at_builtin; go_must (refine wpList_append_sg _ rfl _ _ 36 rfl w.heap.size 32 i0 _ 5 56 Tryd.underlying36 hi hz0 hz1 hz2 rfl (by decide) A c L.length (flat5 L) rfl (by exact HCX.out.cs.own.alloc _) ⟨_, 0, none⟩ 1 1 [.int .i64 x.k, .slice x.A x.F.length x.n, .int .i64 x.c.1, .int .i64 x.c.2.1, .int .i64 x.c.2.2] rfl rfl ?c1 ?c2 ?c3 ?c4 ?c5 ?_))
              case c1 => exact cells_at _ _ [.int .i64 x.k, .slice x.A x.F.length x.n, .int .i64 x.c.1, .int .i64 x.c.2.1, .int .i64 x.c.2.2] _ (by simp)
              case c2 => simp [Value.oneCell']
              case c3 => unfold maxLen; omega
              case c4 => omega
              case c5 => simp; omega
              intro A7 c7 w7 hown7 hb7 hg7
              have HCS7 := Lib.hid (HCX.out.app hgl hown7 hg7)
              clear hown7 hb7 hg7 y0 y1 y2 y3 y4
              go_wp2
              go_roundw
              case rel => exact ⟨k + 1, A7, c7, L ++ [x], by omega, by go_num, by simp, by simp [HLK.out], ⟨HCS7.out.deck.more (by omega), HCS7.out.only, HCS7.out.own, HCS7.out.emp, HCS7.out.bc⟩⟩
              case measure => simp [intOf]; omega
    · have dl : decide ((k : Int) < (m : Int)) = false := by simp; omega
      have dl' : decide (k < m) = false := by simpa using hlt
      go_wp2
      go_ret
      exact cmds_end HCS.out (by have := HLK.out; omega) (by omega)
end Go.Proofs.YtolkdidcmingkaaDoor
