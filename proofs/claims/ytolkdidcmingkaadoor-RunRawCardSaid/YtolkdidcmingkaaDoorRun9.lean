/-
  Chapter 40: commands in a block of their own; contract of awake.
-/
import Derived.Test.YtolkdidcmingkaaDoorRun8
namespace Go.Proofs.YtolkdidcmingkaaDoor
open Go.RowKit
set_option linter.unusedVariables false
set_option linter.unusedSimpArgs false

def flat5 (L : List CV) : List Value := L.flatMap fun x => (cvV x).toList
theorem flat5_cons (L : List CV) (x : CV) : flat5 (x :: L) = .int .i64 x.k :: .slice x.A x.F.length x.n :: .int .i64 x.c.1 :: .int .i64 x.c.2.1 :: .int .i64 x.c.2.2 :: flat5 L := by simp [flat5, cvV]
theorem flat5_snoc (L : List CV) (x : CV) : flat5 (L ++ [x]) = flat5 L ++ [.int .i64 x.k, .slice x.A x.F.length x.n, .int .i64 x.c.1, .int .i64 x.c.2.1, .int .i64 x.c.2.2] := by simp [flat5, cvV]
theorem flat5_get (L : List CV) : ∀ i j, i < L.length → j < 5 → (flat5 L)[i * 5 + j]? = some ((cvV (cAt L i)).getD j (.int .i64 0)) := by
  induction L with
  | nil => intro i j h; simp at h
  | cons a t ih =>
    intro i j h hj
    cases i with
    | zero =>
      rw [flat5_cons]
      have : j = 0 ∨ j = 1 ∨ j = 2 ∨ j = 3 ∨ j = 4 := by omega
      rcases this with rfl | rfl | rfl | rfl | rfl <;> simp [cAt, cvV]
    | succ i =>
      have := ih i j (by simpa using h) hj
      rw [flat5_cons, show (i + 1) * 5 + j = i * 5 + j + 1 + 1 + 1 + 1 + 1 by omega]
      simpa [cAt] using this
theorem rdC_blk {W : World} {g B : Nat} {t : TypeId} {L : List CV} (h : Blk W g t (flat5 L).toArray) (hg : g < B) (hF : ∀ x ∈ L, RdI W B x.A x.F ∧ x.F.length ≤ 100000) : RdC W B (some ⟨g, 0, none⟩) L := by
  refine ⟨fun hn => ⟨g, 0, rfl, hg, fun i j hi hj => ?_⟩, hF⟩
  rw [Nat.zero_add, h.cell]
  simpa using flat5_get L i j hi hj

def ca : T3 := (2, 300, 3)
theorem asc12 : ascB [1, 2] = true := asc_t ⟨by decide, by decide, fun i hi => by
  have : i = 0 ∨ i = 1 := by simp at hi; omega
  rcases this with rfl | rfl <;> (unfold okE; decide)⟩
theorem ctlca : ctlB ca = true := ctl_t ⟨by decide, by decide, by decide, by decide, by decide, by decide⟩
section
variable (A : Option Addr) (n : Nat)
def x1 : CV := ⟨1, A, n, [1, 2], (0, 0, 0)⟩
def xk (k s : Int) : CV := ⟨k, none, 0, [], (2, s, 3)⟩
theorem va1 : validB 1 [] C0 = true := by unfold validB; simp [eqC, C0]
theorem va2 : validB 2 [1, 2] C0 = true := by unfold validB; rw [if_neg (by omega), if_pos rfl, asc12]; decide
theorem va3 {s : Int} (h : 3 ≤ s ∧ s ≤ 6) : validB s [1, 2] ca = true := by unfold validB; rw [if_neg (by omega), if_neg (by omega), if_pos h, asc12]; unfold fitsB; rw [ctlca]; decide
theorem er1 : erP draft (x1 A n) = 0 := by
  show stE 1 [] C0 1 [1, 2] C0 = 0
  unfold stE; rw [va1]; simp [formB, eqC, C0, mayB, asc12]
theorem st1 : stP draft (x1 A n) = ⟨2, [1, 2], C0⟩ := by
  have h : stE 1 [] C0 1 [1, 2] C0 = 0 := er1 A n
  show (⟨stS 1 [] C0 1 [1, 2] C0, stL 1 [] C0 1 [1, 2] C0, stC 1 [] C0 1 [1, 2] C0⟩ : RP) = _
  unfold stS stL stC; rw [if_pos h, if_pos h, if_pos h]; simp [nxt]
theorem er2 : erP ⟨2, [1, 2], C0⟩ (xk 2 300) = 0 := by
  show stE 2 [1, 2] C0 2 [] ca = 0
  unfold stE; rw [va2]; simp [formB, mayB, fitsB, ctlca]; simp [ca]
theorem st2 : stP ⟨2, [1, 2], C0⟩ (xk 2 300) = ⟨3, [1, 2], ca⟩ := by
  have h : stE 2 [1, 2] C0 2 [] ca = 0 := er2
  show (⟨stS 2 [1, 2] C0 2 [] ca, stL 2 [1, 2] C0 2 [] ca, stC 2 [1, 2] C0 2 [] ca⟩ : RP) = _
  unfold stS stL stC; rw [if_pos h, if_pos h, if_pos h]; simp [nxt]
theorem er3 : erP ⟨3, [1, 2], ca⟩ (xk 3 300) = 0 := by
  show stE 3 [1, 2] ca 3 [] ca = 0
  unfold stE; rw [va3 (by omega)]; simp [formB, mayB, eqC]
theorem er3' : erP ⟨3, [1, 2], ca⟩ (xk 3 299) = 17 := by
  show stE 3 [1, 2] ca 3 [] (2, 299, 3) = 17
  unfold stE; rw [va3 (by omega)]; simp [formB, mayB, eqC, ca]
theorem st3 : stP ⟨3, [1, 2], ca⟩ (xk 3 300) = ⟨4, [1, 2], ca⟩ := by
  have h : stE 3 [1, 2] ca 3 [] ca = 0 := er3
  show (⟨stS 3 [1, 2] ca 3 [] ca, stL 3 [1, 2] ca 3 [] ca, stC 3 [1, 2] ca 3 [] ca⟩ : RP) = _
  unfold stS stL stC; rw [if_pos h, if_pos h, if_pos h]; simp [nxt]
theorem er4 : erP ⟨4, [1, 2], ca⟩ (xk 4 300) = 0 := by
  show stE 4 [1, 2] ca 4 [] ca = 0
  unfold stE; rw [va3 (by omega)]; simp [formB, mayB, eqC]
theorem st4 : stP ⟨4, [1, 2], ca⟩ (xk 4 300) = ⟨5, [1, 2], ca⟩ := by
  have h : stE 4 [1, 2] ca 4 [] ca = 0 := er4
  show (⟨stS 4 [1, 2] ca 4 [] ca, stL 4 [1, 2] ca 4 [] ca, stC 4 [1, 2] ca 4 [] ca⟩ : RP) = _
  unfold stS stL stC; rw [if_pos h, if_pos h, if_pos h]; simp [nxt]
def LA (s : Int) : List CV := [x1 A n, xk 2 300, xk 3 s, xk 4 300]
theorem ra1 (s : Int) : rpTo (LA A n s) 1 = ⟨2, [1, 2], C0⟩ := st1 A n
theorem ra2 (s : Int) : rpTo (LA A n s) 2 = ⟨3, [1, 2], ca⟩ := by show stP (rpTo (LA A n s) 1) (xk 2 300) = _; rw [ra1, st2]
theorem ra3 : rpTo (LA A n 300) 3 = ⟨4, [1, 2], ca⟩ := by show stP (rpTo (LA A n 300) 2) (xk 3 300) = _; rw [ra2, st3]
theorem ra4 : rpTo (LA A n 300) 4 = ⟨5, [1, 2], ca⟩ := by show stP (rpTo (LA A n 300) 3) (xk 4 300) = _; rw [ra3, st4]
theorem ea0 (s : Int) : erP (rpTo (LA A n s) 0) (cAt (LA A n s) 0) = 0 := er1 A n
theorem ea1 (s : Int) : erP (rpTo (LA A n s) 1) (cAt (LA A n s) 1) = 0 := by rw [ra1]; exact er2
theorem ea2 : erP (rpTo (LA A n 300) 2) (cAt (LA A n 300) 2) = 0 := by rw [ra2]; exact er3
theorem ea2' : erP (rpTo (LA A n 299) 2) (cAt (LA A n 299) 2) = 17 := by rw [ra2]; exact er3'
theorem ea3 : erP (rpTo (LA A n 300) 3) (cAt (LA A n 300) 3) = 0 := by rw [ra3]; exact er4
theorem rep1 {r : RP} {m : Nat} {er : Int} (h : RepIs (LA A n 300) r m er) : m = 4 ∧ er = 0 ∧ r = ⟨5, [1, 2], ca⟩ := by
  obtain ⟨h1, h2, h3, h4⟩ := h
  rcases h4 with ⟨e1, e2⟩ | ⟨e1, e2, e3⟩
  · have : m = 4 := e1
    subst this
    exact ⟨rfl, e2, by rw [h3, ra4]⟩
  · have : m = 0 ∨ m = 1 ∨ m = 2 ∨ m = 3 := by simp [LA] at e1; omega
    rcases this with rfl | rfl | rfl | rfl
    · rw [ea0] at e2; exact absurd e2 e3
    · rw [ea1] at e2; exact absurd e2 e3
    · rw [ea2] at e2; exact absurd e2 e3
    · rw [ea3] at e2; exact absurd e2 e3
theorem rep2 {r : RP} {m : Nat} {er : Int} (h : RepIs (LA A n 299) r m er) : m = 2 ∧ er = 17 := by
  obtain ⟨h1, h2, h3, h4⟩ := h
  have hm : ¬ 2 < m := fun hlt => by have := h2 2 hlt; rw [ea2'] at this; omega
  rcases h4 with ⟨e1, e2⟩ | ⟨e1, e2, e3⟩
  · simp [LA] at e1; omega
  · have : m = 0 ∨ m = 1 ∨ m = 2 := by omega
    rcases this with rfl | rfl | rfl
    · rw [ea0] at e2; exact absurd e2 e3
    · rw [ea1] at e2; exact absurd e2 e3
    · rw [ea2'] at e2; exact ⟨rfl, e2⟩
end
end Go.Proofs.YtolkdidcmingkaaDoor
