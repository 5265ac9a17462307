/-
  append onto a row of the call's own of which a part is read again behind it. No program in sight; no conditions.
-/
import Derived.Test.YtabnlnhnefjebaaStL
import Derived.Laws.OwnMore
import Derived.Laws.Append
namespace Go.Proofs.Ytabnlnhnefjebaa
open Go.RowKit
set_option linter.unusedVariables false
set_option linter.unusedSimpArgs false
section
variable {P : Program} {w : World} {base n c : Nat} {e : TypeId} {A : Option Addr} {xs : List Value}
theorem own_take1 (h : w.ownsRow base e 1 (.slice A n c) n xs) {k : Nat} (hk : k ≤ n) : w.ownsRow base e 1 (.slice A k c) k (xs.take k) := by
  have h0 := h.1
  refine ⟨by rw [List.length_take]; omega, ?_⟩
  rcases h.2 with ⟨h1, h2⟩ | ⟨g, cap, cur, h1, h2, h3, h4, h5, h6, h7⟩
  · injection h1 with a1 a2 a3
    subst a1 a3
    exact .inl ⟨by rw [show k = 0 by omega], by omega⟩
  · injection h1 with a1 a2 a3
    subst a1 a3
    refine .inr ⟨g, c, cur, rfl, h2, h3, by omega, h5, h6, ?_⟩
    rw [← h7, List.take_take]
    congr 1
    omega
theorem own_drew (h : w.ownsRow base e 1 (.slice A n c) n xs) : w.drew.ownsRow base e 1 (.slice A n c) n xs := h
/-- the row that was appended to reads behind it as it read before -/
theorem append_keep (t ty : TypeId) (i : TypeInfo) (z : Value) (bytes : Nat) (ht : P.underlying t = some (.slice e)) (hi : P.info? e = some i) (hz : i.zero = some z)
    (hsize : i.size = 1) (hby : i.bytes = bytes) (hzs : z.cells.size = 1) (hown : w.ownsRow base e 1 (.slice A n c) n xs)
    (A2 : Option Addr) (m c2 : Nat) (news : List Value) (hs : Src w 1 A2 m news) (hnil : A2 = none → c2 = 0) (h1 : ∀ u ∈ news, u.oneCell' = true) (h63 : n + m ≤ maxLen) (hbytes : (n + m) * bytes ≤ 140737488355328) (hbase : base ≤ w.heap.size) :
    ∃ A' c' w', (Builtin.append_ #[t, t] ty #[.slice A n c, .slice A2 m c2]).run P w = .ok (.slice A' (n + m) c') w' ∧ w'.ownsRow base e 1 (.slice A' (n + m) c') (n + m) (xs ++ news) ∧ w'.ownsRow base e 1 (.slice A n c) n xs ∧ w.grownBy w' (Value.slice A n c).ownBlock := by
  have hz0 : m = 0 → news = [] := fun h => List.eq_nil_of_length_eq_zero (by have := hs.1; omega)
  cases A2 with
  | none =>
    have hm : m = 0 := by
      by_cases h0 : 0 < m
      · obtain ⟨ad', he, _⟩ := hs.2 h0
        cases he
      · omega
    subst hm
    obtain rfl := hz0 rfl
    obtain rfl := hnil rfl
    have hr := run_append_owned_none (P := P) (w := w) base t ty e i 1 ht hi _ n xs hown
    exact ⟨A, c, w, hr, by simpa using hown, hown, World.grownBy.refl w _⟩
  | some ad =>
    have hl : news.length = m * 1 := hs.1
    have hn : ∀ j u, news[j]? = some u → w.cell? (ad.add j) = some u := by
      intro j u hu
      have h0 : 0 < m := by
        have := (List.getElem?_eq_some_iff.1 hu).1
        omega
      obtain ⟨ad', he, hc⟩ := hs.2 h0
      injection he with he
      subst he
      exact hc j u hu
    rcases hown.2 with ⟨h2, h3⟩ | ⟨g, cap, cur, h2, _⟩
    · injection h2 with a1 a2 a3
      subst a1 a3
      obtain ⟨A', c', w', r1, r2, r3, _⟩ := append_full (P := P) w base t ty e i z 1 bytes ht hi hz hsize hby hzs (by decide) _ n xs hown (some ad) m c2 news hs h1 h63 hbytes hbase
      exact ⟨A', c', w', r1, r2, ⟨hown.1, .inl ⟨by rw [h3], h3⟩⟩, r3⟩
    · injection h2 with a1 a2 a3
      subst a1 a3
      by_cases hroom : n + m ≤ c
      · obtain ⟨w', r1, r2, r3⟩ := run_append_fits (P := P) (w := w) base t ty e i 1 ht hi hsize g n c xs hown ad m c2 news hl hn h1 hroom
        refine ⟨_, _, w', r1, r2, ?_, r3⟩
        have := own_take1 r2 (k := n) (by omega)
        rwa [List.take_append_of_le_length (by have := hown.1; omega), List.take_of_length_le (by have := hown.1; omega)] at this
      · have holds : ∀ j u, xs[j]? = some u → w.cell? ((⟨g, 0, none⟩ : Addr).add j) = some u := hown.cells (g := g) rfl
        have hsz : n * i.size = n * 1 := by rw [hsize]
        have hr := run_append_grow (P := P) w t ty e i z ht hi hz ⟨g, 0, none⟩ n c xs (by rw [hsize]; exact hown.1) holds ad m c2 news (by rw [hsize]; exact hl) hn (by omega) (by unfold maxLen at h63; omega) (growslice_fits (by omega) (by rw [hby]; exact hbytes))
        have hge := grownCap_ge w (n + m) c e
        have hcm : grownCap w (n + m) c e ≤ maxLen := grownCap_le_maxLen w (n + m) c e h63
        refine ⟨_, _, _, hr, ?_, (own_drew hown).alloc _, ⟨rfl, rfl, rfl, by simp, fun k hk _ => Below.heap_alloc w.drew _ k hk⟩⟩
        refine ⟨by rw [List.length_append, hown.1, hl]; omega, .inr ⟨w.heap.size, _, _, rfl, hbase, heap_alloc_new w.drew _, hge, hcm, ?_, ?_⟩⟩
        · have e1 := hown.1
          simp only [Array.size_append, List.size_toArray, size_zeroCells, hzs]
          omega
        · have e1 := hown.1
          simp only [Array.toList_append, List.append_assoc]
          rw [← List.append_assoc]
          have e2 : (n + m) * 1 = (xs ++ news).length := by rw [List.length_append]; omega
          rw [e2]
          exact List.take_left
theorem wpList_appk {ops : Array Oper} {rest : List Oper} {o : Oper} {a : Act} {Q : Exit → Act → World → Prop} (hw : Region.wanted o (yielded ops a.tmps) = true) (s x : Operand) (t : TypeId)
    (ho : o.op = .call { callee := .builtin .append, args := #[s, x], argTypes := #[t, t] })
    (base : Nat) (e : TypeId) (i : TypeInfo) (z : Value) (bytes : Nat) (ht : P.underlying t = some (.slice e)) (hi : P.info? e = some i) (hz : i.zero = some z)
    (hsize : i.size = 1) (hby : i.bytes = bytes) (hzs : z.cells.size = 1)
    (A : Option Addr) (n c : Nat) (xs : List Value) (hsv : a.eval s = .slice A n c) (hown : w.ownsRow base e 1 (.slice A n c) n xs)
    (A2 : Option Addr) (m c2 : Nat) (news : List Value) (hx : a.eval x = .slice A2 m c2) (hsrc : Src w 1 A2 m news) (hnil : A2 = none → c2 = 0) (h1 : ∀ u ∈ news, u.oneCell' = true)
    (h63 : n + m ≤ maxLen) (hbytes : (n + m) * bytes ≤ 140737488355328) (hbase : base ≤ w.heap.size)
    (h : ∀ A' c' w', Hid (w'.ownsRow base e 1 (.slice A' (n + m) c') (n + m) (xs ++ news)) → Hid (w'.ownsRow base e 1 (.slice A n c) n xs) → Hid (w.grownBy w' (Value.slice A n c).ownBlock) → wpList P ops Q rest (a.put o.dst (.slice A' (n + m) c')) w') : wpList P ops Q (o :: rest) a w := by
  refine wpList_step fun K hK => ?_
  rw [if_pos hw]
  obtain ⟨A', c', w', r1, r2, r3, r4⟩ := append_keep (P := P) (w := w) t o.type i z bytes ht hi hz hsize hby hzs hown A2 m c2 news hsrc hnil h1 h63 hbytes hbase
  unfold Oper.wp execOp
  simp only [ho, resolve, invoke, builtin, Sem.run_bind, Sem.run_pure, Result.andThen_ok, List.map_toArray, List.map_cons, List.map_nil, hsv, hx, r1]
  exact hK _ _ (h A' c' w' (Lib.hid r2) (Lib.hid r3) (Lib.hid r4))
end
end Go.Proofs.Ytabnlnhnefjebaa
