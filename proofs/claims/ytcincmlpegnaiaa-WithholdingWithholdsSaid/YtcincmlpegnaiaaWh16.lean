/-
  Chapter 30: drawn tables (paygen.Rows).
-/
import Derived.Test.YtcincmlpegnaiaaWh13
import Derived.Deep.RegionHeld3
import Derived.Deep.DeepCutAuto
namespace Go.Proofs.Ytcincmlpegnaiaa
open Go.RowKit
set_option linter.unusedVariables false
set_option linter.unusedSimpArgs false

theorem step_append_sl {P : Program} (w : World) {ops : Array Oper} {o : Oper} {a : Act} {K : Act → World → Prop} {Q : Exit → Act → World → Prop} {X : Prop} (hgd : o.guard = none) (s x : Operand) (t : TypeId)
    (ho : o.op = .call { callee := .builtin .append, args := #[s, x], argTypes := #[t, t] })
    (base : Nat) (e : TypeId) (i : TypeInfo) (z : Value) (size bytes : Nat) (ht : P.underlying t = some (.slice e)) (hi : P.info? e = some i) (hz : i.zero = some z)
    (hsize : i.size = size) (hby : i.bytes = bytes) (hzs : z.cells.size = size) (hsz : 0 < size)
    (A : Option Addr) (c n : Nat) (xs : List Value) (hs : a.eval s = .slice A n c) (hown : w.ownsRow base e size (.slice A n c) n xs)
    (ad : Addr) (m c2 : Nat) (news : List Value) (hx : a.eval x = .slice (some ad) m c2) (hl : news.length = m * size) (hnews : ∀ j u, news[j]? = some u → w.cell? (ad.add j) = some u) (h1 : ∀ u ∈ news, u.oneCell' = true)
    (h63 : n + m ≤ maxLen) (hbytes : (n + m) * bytes ≤ 140737488355328) (hbase : base ≤ w.heap.size)
    (h : ∀ A' c' w', w'.ownsRow base e size (.slice A' (n + m) c') (n + m) (xs ++ news) → Below base w w' → w.grownBy w' (Value.slice A n c).ownBlock → K (a.put o.dst (.slice A' (n + m) c')) w') : if Region.wanted o (yielded ops a.tmps) = true then Oper.wp P o a w K Q else X := by
  have hw : Region.wanted o (yielded ops a.tmps) = true := by simp [Region.wanted, hgd]
  rw [if_pos hw]
  obtain ⟨v', w', hr, h2, h3, h4⟩ := run_append_own (P := P) w base t o.type e i z size bytes ht hi hz hsize hby hzs hsz _ n xs hown ad m c2 news hl hnews h1 h63 hbytes hbase
  unfold Oper.wp execOp
  simp only [ho, resolve, invoke, builtin, Sem.run_bind, Sem.run_pure, Result.andThen_ok, List.map_toArray, List.map_cons, List.map_nil, hs, hx, hr]
  obtain ⟨A', c', rfl⟩ := own_slice h2
  refine h A' c' w' h2 ⟨h3.os, h3.tape, h3.output, h3.size, fun k hk => h3.block k (Nat.lt_of_lt_of_le hk hbase) (fun e => ?_)⟩ h3
  have := (World.ownsRow.lt hown k e.symm).1
  omega
theorem infoR : (Try.prog.info? 75).map (fun i => (i.zero, i.size, i.bytes)) = some (some (.agg #[.int .i64 0, .int .i64 0]), 2, 16) := by kernel_rfl
def OwnR (w : World) (base : Nat) (A : Option Addr) (c : Nat) (s : List (Int × Int)) : Prop := w.ownsRow base 75 2 (.slice A s.length c) s.length (flat s)
def GenR (l : List (Int × Int)) : Prop :=
  1 ≤ l.length ∧ fst2 l 0 = 0 ∧ (∀ i, i < l.length → 0 ≤ fst2 l i ∧ fst2 l i ≤ 100001 * i ∧ 0 ≤ snd2 l i ∧ snd2 l i ≤ 100 + 20000 * i) ∧ (∀ i, i + 1 < l.length → fst2 l i < fst2 l (i + 1))
theorem genR_tbl {l : List (Int × Int)} (h : GenR l) (hl : l.length ≤ 5) : Tbl l := by
  obtain ⟨h1, h2, h3, h4⟩ := h
  refine ⟨h1, by omega, h2, fun i hi => ?_⟩
  have a := h3 i hi
  refine ⟨fun hp => ?_, by omega, amt_iff.2 ⟨by omega, by omega⟩⟩
  have := h4 (i - 1) (by omega)
  rwa [show i - 1 + 1 = i by omega] at this
theorem genR_first {x : Int} (h0 : 0 ≤ x) (h1 : x ≤ 100) : GenR [(0, x)] := by
  refine ⟨by simp, rfl, fun i hi => ?_, fun i hi => by simp at hi⟩
  have e : i = 0 := by simp at hi; omega
  subst e
  refine ⟨by simp [fst2], by simp [fst2], by simpa [snd2] using h0, by simpa [snd2] using h1⟩
theorem genR_step {s : List (Int × Int)} {y x : Int × Int} (h : GenR (s ++ [y])) (h1 : y.1 < x.1) (h2 : x.1 ≤ y.1 + 100001) (h3 : y.2 ≤ x.2) (h4 : x.2 ≤ y.2 + 20000) : GenR (s ++ [y] ++ [x]) := by
  obtain ⟨a1, a2, a3, a4⟩ := h
  have hl : (s ++ [y]).length = s.length + 1 := by simp
  have hlast : fst2 (s ++ [y]) s.length = y.1 := fst2_snoc s y
  have hlast2 : snd2 (s ++ [y]) s.length = y.2 := snd2_snoc s y
  have n1 : fst2 (s ++ [y] ++ [x]) (s.length + 1) = x.1 := by have := fst2_snoc (s ++ [y]) x; rwa [hl] at this
  have n2 : snd2 (s ++ [y] ++ [x]) (s.length + 1) = x.2 := by have := snd2_snoc (s ++ [y]) x; rwa [hl] at this
  have b := a3 s.length (by omega)
  rw [hlast, hlast2] at b
  refine ⟨by simp, by rw [fst2_lt _ _ _ (by omega)]; exact a2, fun i hi => ?_, fun i hi => ?_⟩
  · have hi' : i < s.length + 1 + 1 := by simpa using hi
    by_cases e : i = s.length + 1
    · subst e; rw [n1, n2, Int.natCast_add]; omega
    · rw [fst2_lt _ _ _ (by omega), snd2_lt _ _ _ (by omega)]; exact a3 i (by omega)
  · have hi' : i + 1 < s.length + 1 + 1 := by simpa using hi
    by_cases e : i = s.length
    · subst e; rw [n1, fst2_lt _ _ _ (by omega), hlast]; exact h1
    · rw [fst2_lt (s ++ [y]) x i (by omega), fst2_lt (s ++ [y]) x (i + 1) (by omega)]; exact a4 i (by omega)
theorem OwnR.only {w w' : World} {base g : Nat} {A : Option Addr} {c : Nat} {s : List (Int × Int)} (h : OwnR w base A c s) (ho : Only g w w') (hg : g < base) : OwnR w' base A c s :=
  World.ownsRow.kept h ho (.inr (fun e => by have := (World.ownsRow.lt h _ e).1; omega))
theorem ownR_first (w : World) (base : Nat) (x : Int) (hb : base ≤ w.heap.size) : OwnR (w.alloc (.cells #[.int .i64 0, .int .i64 x] 75)) base (some ⟨w.heap.size, 0, none⟩) 1 [(0, x)] :=
  World.ownsRow_lit w #[.int .i64 0, .int .i64 x] 1 hb (by simp [maxLen]) rfl
theorem OwnR.form {w : World} {base : Nat} {A : Option Addr} {c : Nat} {s : List (Int × Int)} {y : Int × Int} (h : OwnR w base A c (s ++ [y])) :
    ∃ g, A = some ⟨g, 0, none⟩ ∧ base ≤ g ∧ g < w.heap.size ∧ w.cell? ⟨g, s.length * 2, none⟩ = some (.int .i64 y.1) ∧ w.cell? ⟨g, s.length * 2 + 1, none⟩ = some (.int .i64 y.2) := by
  obtain ⟨g, cap, hv, hb, hlt⟩ := World.ownsRow.form h (by simp)
  injection hv with hA _ _
  subst hA
  have hc := World.ownsRow.cells h (g := g) rfl
  have hg := flat_get (s ++ [y]) s.length (by simp)
  rw [fst2_snoc, snd2_snoc] at hg
  refine ⟨g, rfl, hb, hlt, ?_, ?_⟩
  · have := hc _ _ hg.1
    simpa [Go.WideShapes.add_plain] using this
  · have := hc _ _ hg.2
    simpa [Go.WideShapes.add_plain] using this
/-- in the middle of a round -/
structure QR (w : World) (g : Nat) (M : Int) (A : Option Addr) (c : Nat) (l : List (Int × Int)) (z : Nat) (y : Int × Int) (W : World) : Prop where
  deck : Deck W g M
  on : Only g w W
  own : OwnR W w.heap.size A c l
  c0 : W.cell? ⟨z, 0, none⟩ = some (.int .i64 y.1)
  c1 : W.cell? ⟨z, 1, none⟩ = some (.int .i64 y.2)
  hz : z < W.heap.size
  gz : g < z
  gw : g < w.heap.size
section
variable {w W W' : World} {g c z : Nat} {M M' : Int} {A : Option Addr} {l : List (Int × Int)} {y : Int × Int}
theorem QR.next (h : QR w g M A c l z y W) (ho : Only g W W') (hD : Deck W' g M') : QR w g M' A c l z y W' :=
  ⟨hD, h.on.trans ho, h.own.only ho h.gw, (only_cells ho z 0 h.hz (by have := h.gz; omega)).trans h.c0, (only_cells ho z 1 h.hz (by have := h.gz; omega)).trans h.c1, Nat.lt_of_lt_of_le h.hz ho.size, h.gz, h.gw⟩
theorem QR.drew (h : QR w g M A c l z y W) : QR w g M A c l z y W.drew := ⟨h.deck.drewN 1, h.on.drew, h.own, h.c0, h.c1, h.hz, h.gz, h.gw⟩
theorem QR.alloc (h : QR w g M A c l z y W) (o : Obj) : QR w g M A c l z y (W.alloc o) :=
  ⟨h.deck.alloc o, h.on.alloc o, World.ownsRow.alloc h.own o, (World.cell?_alloc_lt W o ⟨z, 0, none⟩ h.hz).trans h.c0, (World.cell?_alloc_lt W o ⟨z, 1, none⟩ h.hz).trans h.c1, by have := h.hz; simp; omega, h.gz, h.gw⟩
end
end Go.Proofs.Ytcincmlpegnaiaa
