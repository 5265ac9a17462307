/-
  Chapter 41: records in memory; Records of the program. The memory is that of the given program; no conditions.
-/
import Derived.Test.YtabnlnhnefjebaaSt7
namespace Go.Proofs.Ytabnlnhnefjebaa
open Go.RowKit
set_option linter.unusedVariables false
set_option linter.unusedSimpArgs false
theorem row23 : (Try.prog.info? 23).map (fun i => (i.zero, i.size, i.bytes)) = some (some (.slice none 0 0), 1, 24) := by kernel_rfl
theorem und24 : Try.prog.underlying 24 = some (.slice 23) := by kernel_rfl
theorem ne235 : (23 : TypeId) ≠ 5 := by decide
/-- the values vs are slices of the records' bytes -/
def RecV (w : World) (lo : Nat) (rs : List (List Int)) (vs : List Value) : Prop :=
  vs.length = rs.length ∧ ∀ i (h : i < rs.length), ∃ Ai ci, vs[i]? = some (.slice Ai rs[i].length ci) ∧ w.ownsRow lo 5 1 (.slice Ai rs[i].length ci) rs[i].length (u8s rs[i])
/-- no value of vs lies in the block 'own' -/
def sepV (vs : List Value) (own : Option Nat) : Prop := ∀ v ∈ vs, ∀ g, v.ownBlock = some g → own ≠ some g
section
variable {w w' : World} {lo : Nat} {rs : List (List Int)} {vs : List Value} {S : Nat → Prop}
theorem RecV.keep (h : RecV w lo rs vs) (k : Chg S w w') (hs : ∀ v ∈ vs, ∀ g, v.ownBlock = some g → ¬ S g) : RecV w' lo rs vs := by
  refine ⟨h.1, fun i hi => ?_⟩
  obtain ⟨Ai, ci, h1, h2⟩ := h.2 i hi
  exact ⟨Ai, ci, h1, own_chg h2 k (fun g e => hs _ (List.mem_of_getElem? h1) g e)⟩
theorem RecV.typ (h : RecV w lo rs vs) : ∀ v ∈ vs, ∀ g, v.ownBlock = some g → ∃ cs, Blk w g 5 cs := by
  intro v hv g e
  obtain ⟨i, hi, rfl⟩ := List.getElem_of_mem hv
  obtain ⟨Ai, ci, h1, h2⟩ := h.2 i (by rw [← h.1]; exact hi)
  rw [List.getElem?_eq_getElem hi] at h1
  injection h1 with h1
  rw [h1] at e
  rcases h2.2 with ⟨h3, _⟩ | ⟨g', cap, cur, h3, _, hh, _⟩
  · rw [h3] at e; simp [Value.ownBlock] at e
  · rw [h3] at e
    simp [Value.ownBlock] at e
    subst e
    exact ⟨cur, hh⟩
theorem RecV.below (h : RecV w lo rs vs) (k : Below w.heap.size w w') : RecV w' lo rs vs := h.keep (Chg.of_below' (S := fun _ => False) k) (fun _ _ _ _ h => h)
theorem RecV.snoc (h : RecV w lo rs vs) {r : List Int} {A : Option Addr} {c : Nat} (ho : w.ownsRow lo 5 1 (.slice A r.length c) r.length (u8s r)) : RecV w lo (rs ++ [r]) (vs ++ [.slice A r.length c]) := by
  refine ⟨by simp [h.1], fun i hi => ?_⟩
  by_cases hlt : i < rs.length
  · obtain ⟨Ai, ci, h1, h2⟩ := h.2 i hlt
    refine ⟨Ai, ci, ?_, ?_⟩
    · rw [List.getElem?_append_left (by rw [h.1]; exact hlt), h1, List.getElem_append_left hlt]
    · rw [List.getElem_append_left hlt]; exact h2
  · have hi' : i = rs.length := by simp at hi; omega
    subst hi'
    refine ⟨A, c, ?_, ?_⟩
    · rw [List.getElem?_append_right (by rw [h.1]; exact Nat.le_refl _), h.1]; simp
    · simp
      exact ho
theorem RecV.nil (w : World) (lo : Nat) : RecV w lo [] [] := ⟨rfl, fun i h => by simp at h⟩
end
/-- a slice of records -/
def Recs (w : World) (lo : Nat) (A : Option Addr) (c : Nat) (rs : List (List Int)) : Prop := ∃ vs, w.ownsRow lo 23 1 (.slice A rs.length c) rs.length vs ∧ RecV w lo rs vs
/-- a slice of records that was made anew -/
def NewRecs (rs : List (List Int)) (w : World) (e : Ending) (w' : World) : Prop := ∃ A c, e = .returned (.slice A rs.length c) ∧ Recs w' w.heap.size A c rs ∧ Below w.heap.size w w'
/-- the state of Records' loop -/
structure RcL (w : World) (B : List (List Int)) (k : Nat) (rs : List (List Int)) (now : List Int) (vs : List Value) (A3 : Option Addr) (c3 : Nat) (A4 : Option Addr) (c4 : Nat) (wr : World) : Prop where
  tot : rs ++ recsOf now (B.drop k) = recsOf [] B
  row : wr.ownsRow w.heap.size 23 1 (.slice A3 rs.length c3) rs.length vs
  recs : RecV wr w.heap.size rs vs
  now_ : wr.ownsRow w.heap.size 5 1 (.slice A4 now.length c4) now.length (u8s now)
  sep : sepV vs (Value.slice A4 now.length c4).ownBlock
  bel : Below w.heap.size w wr
  len1 : rs.length ≤ k
  len2 : now.length ≤ k * 26
section
variable {w : World} {B : List (List Int)} {k : Nat} {rs : List (List Int)} {now : List Int} {vs : List Value} {A3 : Option Addr} {c3 : Nat} {A4 : Option Addr} {c4 : Nat} {wr w' : World}
theorem RcL.below (h : RcL w B k rs now vs A3 c3 A4 c4 wr) (hb : Below wr.heap.size wr w') : RcL w B k rs now vs A3 c3 A4 c4 w' :=
  ⟨h.tot, (own_below h.row (Lib.hid hb)).out, h.recs.below hb, (own_below h.now_ (Lib.hid hb)).out, h.sep, h.bel.trans (hb.mono h.bel.size), h.len1, h.len2⟩
/-- the data of a block behind what is there -/
theorem RcL.add (h : RcL w B k rs now vs A3 c3 A4 c4 wr) {x : List Int} {A5 : Option Addr} {c5 : Nat} (hb : bsize x ≤ 26) (hl : (bdata x).length = bsize x)
    (ho : w'.ownsRow w.heap.size 5 1 (.slice A5 (now.length + bsize x) c5) (now.length + bsize x) (u8s now ++ u8s (bdata x))) (hg : wr.grownBy w' (Value.slice A4 now.length c4).ownBlock)
    (hx : (Value.slice A5 (now.length + bsize x) c5).ownBlock = (Value.slice A4 now.length c4).ownBlock ∨ (Value.slice A5 (now.length + bsize x) c5).ownBlock = some wr.heap.size) :
    RecV w' w.heap.size rs vs ∧ w'.ownsRow w.heap.size 23 1 (.slice A3 rs.length c3) rs.length vs ∧ w'.ownsRow w.heap.size 5 1 (.slice A5 (now ++ bdata x).length c5) (now ++ bdata x).length (u8s (now ++ bdata x)) ∧ sepV vs (Value.slice A5 (now ++ bdata x).length c5).ownBlock ∧ Below w.heap.size w w' := by
  have hk : Chg (fun g => (Value.slice A4 now.length c4).ownBlock = some g) wr w' := Chg.of_grown hg (fun i _ e => e)
  have e1 : (now ++ bdata x).length = now.length + bsize x := by rw [List.length_append, hl]
  refine ⟨h.recs.keep hk (fun v hv g e h' => h.sep v hv g e h'), own_chg h.row hk (fun g e h' => ?_), by rw [e1, u8s_app]; exact ho, ?_, ?_⟩
  · rcases h.row.2 with ⟨h3, _⟩ | ⟨g', cap, cur, h3, _, hh, _⟩
    · rw [h3] at e; simp [Value.ownBlock] at e
    · rw [h3] at e
      simp [Value.ownBlock] at e
      subst e
      exact own_blk_ne h.now_ (g := g') (t := 23) (cs := cur) hh (fun e => ne235 e.symm) h'
  · intro v hv g e
    rw [e1]
    rcases hx with hx | hx
    · rw [hx]; exact h.sep v hv g e
    · rw [hx]
      intro e2
      injection e2 with e2
      obtain ⟨cs, hcs⟩ := h.recs.typ v hv g e
      have := hcs.lt
      omega
  · exact h.bel.trans ((Below.refl w.heap.size wr).grown hg h.bel.size (fun k hk => (h.now_.lt k hk).1))
end
theorem recsOf_step (now : List Int) (B : List (List Int)) (k : Nat) (hk : k < B.length) : recsOf now (B.drop k) = if blast B[k] = true then (now ++ bdata B[k]) :: recsOf [] (B.drop (k + 1)) else recsOf (now ++ bdata B[k]) (B.drop (k + 1)) := by
  rw [List.drop_eq_getElem_cons hk, recsOf]
theorem RcL.stepL {w : World} {B : List (List Int)} {k : Nat} {rs : List (List Int)} {now : List Int} {vs : List Value} {A3 : Option Addr} {c3 : Nat} {A4 : Option Addr} {c4 : Nat} {wr w1 w' : World} (h : RcL w B k rs now vs A3 c3 A4 c4 wr) (hk : k < B.length) (hl : blast B[k] = true) (hb : (bdata B[k]).length ≤ 26)
    {A5 A6 : Option Addr} {c5 c6 : Nat} {o : Obj} (hr : RecV w1 w.heap.size rs vs) (ho : w1.ownsRow w.heap.size 5 1 (.slice A5 (now ++ bdata B[k]).length c5) (now ++ bdata B[k]).length (u8s (now ++ bdata B[k]))) (hbel : Below w.heap.size w w1) (hrow : w1.ownsRow w.heap.size 23 1 (.slice A3 rs.length c3) rs.length vs)
    (ho2 : w'.ownsRow w.heap.size 23 1 (.slice A6 (rs.length + 1) c6) (rs.length + 1) (vs ++ [.slice A5 (now ++ bdata B[k]).length c5])) (hg : (w1.alloc o).grownBy w' (Value.slice A3 rs.length c3).ownBlock) :
    RcL w B (k + 1) (rs ++ [now ++ bdata B[k]]) [] (vs ++ [.slice A5 (now ++ bdata B[k]).length c5]) A6 c6 none 0 w' := by
  have hk2 : Chg (fun g => (Value.slice A3 rs.length c3).ownBlock = some g) w1 w' := ((Chg.refl _ w1).alloc o).trans (Chg.of_grown hg (fun i _ e => e)) (fun _ _ h => h)
  have hne : ∀ g cs, Blk w1 g 5 cs → (Value.slice A3 rs.length c3).ownBlock ≠ some g := fun g cs hc => own_blk_ne hrow hc ne235
  have ho' : w'.ownsRow w.heap.size 5 1 (.slice A5 (now ++ bdata B[k]).length c5) (now ++ bdata B[k]).length (u8s (now ++ bdata B[k])) := own_chg ho hk2 (fun g e h' => by
    rcases ho.2 with ⟨h3, _⟩ | ⟨g', cap, cur, h3, _, hh, _⟩
    · rw [h3] at e; simp [Value.ownBlock] at e
    · rw [h3] at e
      simp [Value.ownBlock] at e
      subst e
      exact hne g' cur hh h')
  have hr' : RecV w' w.heap.size rs vs := hr.keep hk2 (fun v hv g e h' => by
    obtain ⟨cs, hcs⟩ := hr.typ v hv g e
    exact hne g cs hcs h')
  refine ⟨?_, by simpa using ho2, hr'.snoc ho', World.ownsRow_nil _ _ _ _, fun v hv g e h' => by simp [Value.ownBlock] at h', ?_, by have := h.len1; simp; omega, by simp⟩
  · rw [← h.tot, recsOf_step now B k hk, if_pos hl]; simp
  · exact hbel.trans (((Below.refl w.heap.size w1).alloc hbel.size o).trans ((Below.refl w.heap.size (w1.alloc o)).grown hg (by have := hbel.size; simp; omega) (fun k hk => (hrow.lt k hk).1)))
theorem RcL.stepM {w : World} {B : List (List Int)} {k : Nat} {rs : List (List Int)} {now : List Int} {vs : List Value} {A3 : Option Addr} {c3 : Nat} {A4 : Option Addr} {c4 : Nat} {wr w1 : World} (h : RcL w B k rs now vs A3 c3 A4 c4 wr) (hk : k < B.length) (hl : blast B[k] = false) (hb : (bdata B[k]).length ≤ 26)
    {A5 : Option Addr} {c5 : Nat} (hr : RecV w1 w.heap.size rs vs) (ho : w1.ownsRow w.heap.size 5 1 (.slice A5 (now ++ bdata B[k]).length c5) (now ++ bdata B[k]).length (u8s (now ++ bdata B[k]))) (hs : sepV vs (Value.slice A5 (now ++ bdata B[k]).length c5).ownBlock) (hbel : Below w.heap.size w w1) (hrow : w1.ownsRow w.heap.size 23 1 (.slice A3 rs.length c3) rs.length vs) :
    RcL w B (k + 1) rs (now ++ bdata B[k]) vs A3 c3 A5 c5 w1 :=
  ⟨by rw [← h.tot, recsOf_step now B k hk, if_neg (by rw [hl]; simp)], hrow, hr, ho, hs, hbel, by have := h.len1; omega, by rw [List.length_append]; have := h.len2; omega⟩
/-- what is known behind the append of a block's data -/
def RcA (w : World) (rs : List (List Int)) (now : List Int) (vs : List Value) (A3 : Option Addr) (c3 : Nat) (A5 : Option Addr) (c5 : Nat) (x : List Int) (w' : World) : Prop :=
  RecV w' w.heap.size rs vs ∧ w'.ownsRow w.heap.size 23 1 (.slice A3 rs.length c3) rs.length vs ∧ w'.ownsRow w.heap.size 5 1 (.slice A5 (now ++ bdata x).length c5) (now ++ bdata x).length (u8s (now ++ bdata x)) ∧ sepV vs (Value.slice A5 (now ++ bdata x).length c5).ownBlock ∧ Below w.heap.size w w'
section
variable {w : World} {B : List (List Int)} {k : Nat} {rs : List (List Int)} {now : List Int} {vs : List Value} {A3 : Option Addr} {c3 : Nat} {A4 : Option Addr} {c4 : Nat} {w3 w4 w5 w6 : World} {n3 n4 s : Nat} {x : List Int} {A5 A6 : Option Addr} {c5 c6 : Nat}
theorem rcl_add (h : Hid (RcL w B k rs now vs A3 c3 A4 c4 w3)) (hn : Hid (n4 = now.length)) (hs : Hid (s = bsize x)) (h26 : s ≤ 26) (hD : Hid ((bdata x).length = s)) (ho : Hid (w4.ownsRow w.heap.size 5 1 (.slice A5 (n4 + s) c5) (n4 + s) (u8s now ++ u8s (bdata x)))) (hg : Hid (w3.grownBy w4 (Value.slice A4 n4 c4).ownBlock))
    (hx : Hid ((Value.slice A5 (n4 + s) c5).ownBlock = (Value.slice A4 n4 c4).ownBlock ∨ (Value.slice A5 (n4 + s) c5).ownBlock = some w3.heap.size)) : RcA w rs now vs A3 c3 A5 c5 x w4 := by
  have e1 := hn.out
  have e2 := hs.out
  subst e1 e2
  exact (h.out).add h26 hD.out ho.out hg.out hx.out
theorem RcA.below (h : RcA w rs now vs A3 c3 A5 c5 x w4) (hb : Below w4.heap.size w4 w5) : RcA w rs now vs A3 c3 A5 c5 x w5 :=
  ⟨h.1.below hb, (own_below h.2.1 (Lib.hid hb)).out, (own_below h.2.2.1 (Lib.hid hb)).out, h.2.2.2.1, h.2.2.2.2.trans (hb.mono h.2.2.2.2.size)⟩
theorem rc5_row (h : Hid (RcA w rs now vs A3 c3 A5 c5 x w4)) (hb : Hid (Below w4.heap.size w4 w5)) (hn : Hid (n3 = rs.length)) : Hid (w5.ownsRow w.heap.size 23 1 (.slice A3 n3 c3) n3 vs) := by
  refine Lib.hid ?_
  rw [hn.out]
  exact ((h.out).below hb.out).2.1
theorem rc5_size (h : Hid (RcA w rs now vs A3 c3 A5 c5 x w4)) (hb : Hid (Below w4.heap.size w4 w5)) : w.heap.size ≤ w5.heap.size := ((h.out).below hb.out).2.2.2.2.size
theorem rc_stepL {o : Obj} (h : Hid (RcL w B k rs now vs A3 c3 A4 c4 w3)) (hk : k < B.length) (Hx : Hid (x = B[k])) (Hla : Hid (true = blast x)) (hD : Hid ((bdata x).length = s)) (hs : Hid (s = bsize x)) (hA : Hid (RcA w rs now vs A3 c3 A5 c5 x w4)) (hb : Hid (Below w4.heap.size w4 w5)) (hn3 : Hid (n3 = rs.length)) (hn4 : Hid (n4 = now.length))
    (ho : Hid (w6.ownsRow w.heap.size 23 1 (.slice A6 (n3 + 1) c6) (n3 + 1) (vs ++ [.slice A5 (n4 + s) c5]))) (hg : Hid ((w5.alloc o).grownBy w6 (Value.slice A3 n3 c3).ownBlock)) (h26 : s ≤ 26) :
    Hid (RcL w B (k + 1) (rs ++ [now ++ bdata x]) [] (vs ++ [.slice A5 (n4 + s) c5]) A6 c6 none 0 w6) := by
  have e1 := Hx.out
  have e2 := hn3.out
  have e3 : n4 + s = (now ++ bdata x).length := by rw [List.length_append, hD.out, hn4.out]
  have ho := ho.out
  have hg := hg.out
  rw [e3] at ho ⊢
  have h26' : (bdata x).length ≤ 26 := by rw [hD.out]; exact h26
  have hl := Hla.out
  clear Hx hn3 e3
  subst e1 e2
  obtain ⟨a1, a2, a3, a4, a5⟩ := (hA.out).below hb.out
  exact Lib.hid ((h.out).stepL hk hl.symm h26' a1 a3 a5 a2 ho hg)
theorem rc_stepM (h : Hid (RcL w B k rs now vs A3 c3 A4 c4 w3)) (hk : k < B.length) (Hx : Hid (x = B[k])) (Hla : Hid (false = blast x)) (hD : Hid ((bdata x).length = s)) (hs : Hid (s = bsize x)) (hA : Hid (RcA w rs now vs A3 c3 A5 c5 x w4)) (hb : Hid (Below w4.heap.size w4 w5)) (h26 : s ≤ 26) :
    Hid (RcL w B (k + 1) rs (now ++ bdata x) vs A3 c3 A5 c5 w5) := by
  have e1 := Hx.out
  have h26' : (bdata x).length ≤ 26 := by rw [hD.out]; exact h26
  have hl := Hla.out
  clear Hx
  subst e1
  obtain ⟨a1, a2, a3, a4, a5⟩ := (hA.out).below hb.out
  exact Lib.hid ((h.out).stepM hk hl.symm h26' a1 a3 a4 a5 a2)
end
theorem one_src (w : World) (v : Value) (t : TypeId) : Src (w.alloc (.cells #[v] t)) 1 (some ⟨w.heap.size, 0, none⟩) 1 [v] := by
  refine ⟨rfl, fun _ => ⟨_, rfl, fun j u hu => ?_⟩⟩
  rw [Go.WideShapes.add_plain, (Blk.new w _ _).cell, Nat.zero_add]
  simpa using hu
theorem one_cell (A : Option Addr) (n c : Nat) : ∀ u ∈ [Value.slice A n c], u.oneCell' = true := by
  intro u hu
  simp at hu
  subst hu
  rfl
theorem app_own {w : World} {B : List (List Int)} {k : Nat} {rs : List (List Int)} {now : List Int} {vs : List Value} {A3 : Option Addr} {c3 : Nat} {A4 : Option Addr} {c4 : Nat} {w2 w3 : World} {n4 : Nat} (h : Hid (RcL w B k rs now vs A3 c3 A4 c4 w2)) (hb : Hid (Below w2.heap.size w2 w3)) (hn : Hid (n4 = now.length)) : w3.ownsRow w.heap.size 5 1 (.slice A4 n4 c4) n4 (u8s now) := by
  rw [hn.out]; exact ((h.out).below hb.out).now_
theorem app_src {w2 w3 : World} {g : Nat} {t : TypeId} {x : List Int} {s : Nat} (hb : Hid (Blk w2 g t (u8s x).toArray)) (hb3 : Hid (Below w2.heap.size w2 w3)) (hx : Hid (x.length = 32)) (hs : Hid (s = bsize x)) (h26 : s ≤ 26) : Src w3 1 (some ⟨g, 5, none⟩) s (u8s (bdata x)) := dat_src (blk_more hb.out hb3) hx hs h26
set_option maxHeartbeats 3200000 in
theorem records_any (p : Nat) (own : Option Nat) (B : List (List Int)) (sy : Nat) (w : World) (h : St w p own B sy) (h26 : ∀ x ∈ B, bsize x ≤ 26) :
    Calls Try.prog 27 #[.pointer (some ⟨p, 0, none⟩)] w (NewRecs (recsOf [] B) w) := by
  obtain ⟨A, c, h⟩ := h
  have HS := Lib.hid h
  have H26 := Lib.hid h26
  have x0 := h.box.cell 0
  have hl := h.len
  simp at x0
  obtain ⟨N, HN⟩ : ∃ N, Hid (N = B.length) := ⟨_, Lib.hid rfl⟩
  rw [← HN.out] at x0 hl
  clear h h26
  obtain ⟨i5, hi5, hz50, hz51, hz52⟩ := info_parts row5
  obtain ⟨i23, hi23, hz230, hz231, hz232⟩ := info_parts row23
  have HI5 := Lib.hid hi5
  have HI23 := Lib.hid hi23
  have HZ50 := Lib.hid hz50
  have HZ51 := Lib.hid hz51
  have HZ52 := Lib.hid hz52
  have HZ230 := Lib.hid hz230
  have HZ231 := Lib.hid hz231
  have HZ232 := Lib.hid hz232
  clear hi5 hi23 hz50 hz51 hz52 hz230 hz231 hz232
  go_enter Try.func27, Try.ntmps27
  go_wp2
  clear x0
  go_loopw [3, 4, 14] (fun v3 v4 i wr => ∃ (k : Nat) (rs : List (List Int)) (now : List Int) (vs : List Value) (A3 : Option Addr) (c3 : Nat) (A4 : Option Addr) (c4 : Nat), k ≤ N ∧ i = .int .i64 k ∧ v3 = .slice A3 rs.length c3 ∧ v4 = .slice A4 now.length c4 ∧ RcL w B k rs now vs A3 c3 A4 c4 wr) (fun _ _ i _ => N - (intOf i).toNat)
  case atStart => exact ⟨0, [], [], [], none, 0, none, 0, Nat.zero_le _, rfl, rfl, rfl, rfl, World.ownsRow_nil _ _ _ _, RecV.nil _ _, World.ownsRow_nil _ _ _ _, (fun v hv => by simp at hv), Below.refl _ _, Nat.le_refl _, by simp⟩
  case round =>
    obtain ⟨k, rs, now, vs, A3, c3, A4, c4, hk, rfl, rfl, rfl, hL⟩ := hrel
    have HL := Lib.hid hL
    have hl1 := hL.len1
    have hl2 := hL.len2
    clear hL
    obtain ⟨n3, Hn3⟩ : ∃ n3, Hid (n3 = rs.length) := ⟨_, Lib.hid rfl⟩
    obtain ⟨n4, Hn4⟩ : ∃ n4, Hid (n4 = now.length) := ⟨_, Lib.hid rfl⟩
    rw [← Hn3.out] at hl1 ⊢
    rw [← Hn4.out] at hl2 ⊢
    by_cases hlt : k < N
    · have hkB : k < B.length := by rw [← HN.out]; omega
      obtain ⟨g, rfl, hg, _⟩ := (HS.out).addr (by omega)
      have HR : Hid (wr.rangeAt g (k * 32) (u8s B[k])) := Lib.hid (range_below ((HS.out).range hkB rfl) hg ((HL.out).bel))
      have HX := len32 (HS.out).ok hkB
      have HBX : Hid (byteOk B[k]) := Lib.hid ((HS.out).ok _ (List.getElem_mem hkB)).2
      obtain ⟨la, Hla⟩ : ∃ la, Hid (la = blast B[k]) := ⟨_, Lib.hid rfl⟩
      obtain ⟨s, Hs⟩ : ∃ s, Hid (s = bsize B[k]) := ⟨_, Lib.hid rfl⟩
      have hs26 : s ≤ 26 := by rw [Hs.out]; exact H26.out _ (List.getElem_mem hkB)
      obtain ⟨x, Hx⟩ : ∃ x, Hid (x = B[k]) := ⟨_, Lib.hid rfl⟩
      rw [← Hx.out] at HR HX HBX Hla Hs
      have HD := dat_len HX Hs hs26
      have hsl := fun (w : World) (g : Nat) => run_slice_dat w g s hs26
      have hs26' : (s : Int) ≤ 26 := by omega
      go_upto_region 8 with (first
        | (refine wpList_load_mid rfl 61 (.tmp 16) rfl g (k * 32) rfl (u8s x) _ HR.out und61 rfl (info_32l HX) ?_)
        | (refine wpList_alloc_arr rfl 61 rfl _ zero61 ?_; intro g6 w1 Hg6 Hw1)
        | (refine wpList_store_blk rfl 61 (.tmp 6) (.tmp 17) rfl g6 _ _ 61 (blk_of Hg6 Hw1) rfl rfl (info_32 HX) (size_32 HX) (u8s_all _) ?_; intro w2 Hb2 Ho2))
      have HL2 := Lib.hid ((HL.out).below (bel_nextB (Lib.hid (Below.refl _ _)) Hg6 Hw1 Ho2))
      clear HL HR Hw1 Ho2
      go_wp2_with (first
        | (refine wpList_load_blk rfl 61 (.tmp 6) rfl g6 _ 61 Hb2.out rfl _ und61 rfl (info_32 HX) ?_)
        | (go_at_call 38; refine (size_at HX HBX Hs _).mono ?_; rintro e w3 ⟨rfl, hb3⟩; have Hb3 := Lib.hid hb3; clear hb3)
        | (at_builtin; refine wpList_app rfl (.tmp 18) (.tmp 22) 23 rfl w.heap.size 5 i5 (.int .u8 0) 1 1 und23 HI5.out HZ50.out HZ51.out HZ52.out rfl (by decide) _ n4 (u8s now) rfl (app_own HL2 Hb3 Hn4) _ _ _ (u8s (bdata x)) rfl (app_src Hb2 Hb3 HX Hs hs26) (u8s_one _) ?_ ?_ ?_ ?_))
      · unfold maxLen; omega
      · omega
      · have := (HL2.out).bel.size; have := (Hb3.out).size; omega
      intro A5 c5 w4 Ho4 Hg4 Hx4
      have HL3 := Lib.hid ((HL2.out).below Hb3.out)
      have HB3 := blk_more Hb2.out Hb3
      have HA := Lib.hid (rcl_add HL3 Hn4 Hs hs26 HD Ho4 Hg4 Hx4)
      have HB4 : Hid (Blk w4 g6 61 (u8s x).toArray) := Lib.hid ((HB3.out).grown Hg4.out (fun e => own_blk_ne (app_own HL2 Hb3 Hn4) HB3.out (by decide) e.symm))
      clear Ho4 Hg4 Hx4 HL2 Hb2 Hb3 HB3 hsl
      cases la with
      | true =>
        go_upto_region 10 with (first
          | (refine wpList_load_blk rfl 61 (.tmp 6) rfl g6 _ 61 HB4.out rfl _ und61 rfl (info_32 HX) ?_)
          | (go_at_call 39; refine (last_at HX HBX Hla _).mono ?_; rintro e w5 ⟨rfl, hb5⟩; have Hb5 := Lib.hid hb5; clear hb5))
        have HR5 := rc5_row HA Hb5 Hn3
        have HSr : Hid (Src (w5.alloc (.cells #[.slice A5 (n4 + s) c5] 23)) 1 (some ⟨w5.heap.size, 0, none⟩) 1 [.slice A5 (n4 + s) c5]) := Lib.hid (one_src w5 _ _)
        go_wp2_with (at_builtin; refine wpList_app rfl (.tmp 26) (.tmp 28) 24 rfl w.heap.size 23 i23 (.slice none 0 0) 1 24 und24 HI23.out HZ230.out HZ231.out HZ232.out rfl (by decide) _ n3 vs rfl ((HR5.out).alloc _) _ _ _ [.slice A5 (n4 + s) c5] rfl HSr.out (one_cell _ _ _) ?_ ?_ ?_ ?_)
        · unfold maxLen; omega
        · omega
        · have := rc5_size HA Hb5; simp; omega
        intro A6 c6 w6 Ho6 Hg6' Hx6
        have HN6 := rc_stepL HL3 hkB Hx Hla HD Hs HA Hb5 Hn3 Hn4 Ho6 Hg6' hs26
        clear HR5 HSr HA Hb5 Ho6 Hg6' Hx6 HL3 HB4
        go_wp2
        go_roundw
        case rel => exact ⟨k + 1, _, [], _, A6, c6, none, 0, by omega, by go_num, by rw [List.length_append, ← Hn3.out]; rfl, rfl, HN6.out⟩
        case measure => simp [intOf]; omega
      | false =>
        go_upto_region 12 with (first
          | (refine wpList_load_blk rfl 61 (.tmp 6) rfl g6 _ 61 HB4.out rfl _ und61 rfl (info_32 HX) ?_)
          | (go_at_call 39; refine (last_at HX HBX Hla _).mono ?_; rintro e w5 ⟨rfl, hb5⟩; have Hb5 := Lib.hid hb5; clear hb5))
        have HN6 := rc_stepM HL3 hkB Hx Hla HD Hs HA Hb5 hs26
        have HW : Hid (n4 + s = (now ++ bdata x).length) := Lib.hid (by rw [List.length_append, HD.out, Hn4.out])
        clear HA Hb5 HL3 HB4
        go_wp2
        go_roundw
        case rel => exact ⟨k + 1, rs, now ++ bdata x, vs, A3, c3, A5, c5, by omega, by go_num, by rw [Hn3.out], by rw [HW.out], HN6.out⟩
        case measure => simp [intOf]; omega
    · obtain rfl : k = N := by omega
      have HE : Hid (rs = recsOf [] B) := Lib.hid (by
        have := (HL.out).tot
        rw [List.drop_of_length_le (by rw [HN.out]; exact Nat.le_refl _), recsOf, List.append_nil] at this
        exact this)
      go_wp2
      go_ret
      exact ⟨A3, c3, by rw [← HE.out, Hn3.out]; rfl, by rw [← HE.out]; exact ⟨vs, (HL.out).row, (HL.out).recs⟩, (HL.out).bel⟩
end Go.Proofs.Ytabnlnhnefjebaa
