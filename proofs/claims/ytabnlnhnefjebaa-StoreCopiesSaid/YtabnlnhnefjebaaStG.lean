/-
  Regions that draw their order, of which the last steps write: what is known of the memory holds up to the first of these ('late'), which waits for all loads. No conditions.
-/
import Derived.Test.YtabnlnhnefjebaaStB
import Derived.Test.YtabnlnhnefjebaaRf3
namespace Go.Proofs.Ytabnlnhnefjebaa
open Go.RowKit
set_option linter.unusedVariables false
set_option linter.unusedSimpArgs false
/-- j waits for i -/
def reqs (ops : Array Oper) : Nat → Nat → Nat → Bool
  | 0, _, _ => false
  | n + 1, i, j => match ops[j]? with
    | none => false
    | some o => o.after.any fun e => Region.binds .any e && (e.on == i || reqs ops n i e.on)
def Closed (ops : Array Oper) (L : Array Bool) : Prop := ∀ j o, ops[j]? = some o → L.getD j false = true → ∀ e ∈ o.after, Region.binds .any e = true → L.getD e.on false = true
theorem getD_set_of {L : Array Bool} {j k : Nat} (h : L.getD k false = true) : (L.setIfInBounds j true).getD k false = true := by
  simp only [Array.getD_eq_getD_getElem?, Array.getElem?_setIfInBounds] at *
  split
  · split <;> simp_all
  · exact h
theorem getD_set_far {L : Array Bool} {j k : Nat} (h : j ≠ k) : (L.setIfInBounds j true).getD k false = L.getD k false := by
  simp only [Array.getD_eq_getD_getElem?]
  rw [Array.getElem?_setIfInBounds_ne h]
theorem ready_off {ops : Array Oper} {L : Array Bool} {i : Nat} (h : i ∈ Region.ready .any ops L) : L.getD i false = false := by
  unfold Region.ready at h
  rw [List.mem_filter] at h
  have h2 := h.2
  simp only [Bool.and_eq_true, Bool.not_eq_true'] at h2
  have h3 := h2.1
  simp only [Array.getD_eq_getD_getElem?] at *
  cases hq : L[i]? with
  | none => rw [hq] at h3; simp at h3
  | some b => rw [hq] at h3; simpa using h3
theorem ready_edges {ops : Array Oper} {L : Array Bool} {i : Nat} {o : Oper} (h : i ∈ Region.ready .any ops L) (ho : ops[i]? = some o) : ∀ e ∈ o.after, Region.binds .any e = true → L.getD e.on false = true := by
  unfold Region.ready at h
  rw [List.mem_filter] at h
  have h2 := h.2
  simp only [Bool.and_eq_true, ho, Option.map_some, Option.getD_some] at h2
  have h3 := Array.all_eq_true_iff_forall_mem.1 h2.2
  intro e he hb
  have := h3 e he
  simpa [hb] using this
theorem closed_set {ops : Array Oper} {L : Array Bool} {i : Nat} (hc : Closed ops L) (h : i ∈ Region.ready .any ops L) : Closed ops (L.setIfInBounds i true) := by
  intro j o ho hj e he hb
  by_cases hij : i = j
  · subst hij
    exact getD_set_of (ready_edges h ho e he hb)
  · rw [getD_set_far hij] at hj
    exact getD_set_of (hc j o ho hj e he hb)
theorem closed_reqs {ops : Array Oper} {L : Array Bool} {i : Nat} (hc : Closed ops L) : ∀ n j, reqs ops n i j = true → L.getD j false = true → L.getD i false = true := by
  intro n
  induction n with
  | zero => intro j h; simp [reqs] at h
  | succ n ih =>
    intro j h hj
    unfold reqs at h
    cases ho : ops[j]? with
    | none => rw [ho] at h; simp at h
    | some o =>
      rw [ho] at h
      simp only [Array.any_eq_true'] at h
      obtain ⟨e, he, h⟩ := h
      simp only [Bool.and_eq_true, Bool.or_eq_true, beq_iff_eq] at h
      have h1 := hc j o ho hj e he h.1
      rcases h.2 with h2 | h2
      · rw [← h2]; exact h1
      · exact ih _ h2 h1
theorem rep_off (n k : Nat) : (Array.replicate n false).getD k false = false := by
  rw [Array.getD_eq_getD_getElem?, Array.getElem?_replicate]
  split <;> rfl
theorem closed_start (ops : Array Oper) (n : Nat) : Closed ops (Array.replicate n false) := by
  intro j o _ hj
  rw [rep_off] at hj
  cases hj
def wpAnyL (P : Program) (ops : Array Oper) (Q : Exit → Act → World → Prop) (S : World → Prop) (Lt : Nat) : Nat → Array Bool → Act → World → Prop
  | 0, listed, a, w => Region.ready .any ops listed = [] ∧ Q .normal a w
  | fuel + 1, listed, a, w => (Region.ready .any ops listed = [] → Q .normal a w) ∧
    ∀ i ∈ Region.ready .any ops listed, wpOp P ops Q i (fun a' w' => ((listed.setIfInBounds i true).getD Lt false = false → S w') ∧ wpAnyL P ops Q S Lt fuel (listed.setIfInBounds i true) a' w') a w
section
variable {P : Program} {ops : Array Oper} {Q : Exit → Act → World → Prop} {S S' : World → Prop} {Lt : Nat}
theorem wpAny_of_L : ∀ (fuel : Nat) (listed : Array Bool) (a : Act) (w : World), wpAnyL P ops Q S Lt fuel listed a w → wpAny P .any ops Q fuel listed a w
  | 0, _, _, _, h => h
  | fuel + 1, _, _, _, h => ⟨h.1, fun i hi => wpOp_mono (fun a' w' h' => wpAny_of_L fuel _ a' w' h'.2) (h.2 i hi)⟩
theorem wpAnyL_weak (hS : ∀ W, S' W → S W) : ∀ (fuel : Nat) (listed : Array Bool) (a : Act) (w : World), wpAnyL P ops Q S' Lt fuel listed a w → wpAnyL P ops Q S Lt fuel listed a w
  | 0, _, _, _, h => h
  | fuel + 1, _, _, _, h => ⟨h.1, fun i hi => wpOp_mono (fun a' w' h' => ⟨fun e => hS _ (h'.1 e), wpAnyL_weak hS fuel _ a' w' h'.2⟩) (h.2 i hi)⟩
theorem wpAnyL_of_any : ∀ (fuel : Nat) (listed : Array Bool) (a : Act) (w : World), listed.getD Lt false = true → wpAny P .any ops Q fuel listed a w → wpAnyL P ops Q S Lt fuel listed a w
  | 0, _, _, _, _, h => h
  | fuel + 1, _, _, _, hl, h => ⟨h.1, fun i hi => wpOp_mono (fun a' w' h' => ⟨fun e => (by rw [getD_set_of hl] at e; cases e), wpAnyL_of_any fuel _ a' w' (getD_set_of hl) h'⟩) (h.2 i hi)⟩
theorem wpAnyL_first {i nn : Nat} {oi : Oper} {v : Value} (hi : ops[i]? = some oi) (hsel : ∀ (j : Nat) (o : Oper) cs b, ops[j]? = some o → o.op ≠ .select cs b)
    (hQ : ∀ c a w, Q (.panic c) (a.put oi.dst v) w → Q (.panic c) a w) (hne : i ≠ Lt) (hreq : reqs ops nn i Lt = true) :
    ∀ (fuel : Nat) (listed : Array Bool) (a : Act) (w : World), Closed ops listed →
      (∀ j oj, ops[j]? = some oj → j ≠ i → listed.getD j true = false → (∀ e ∈ oj.after, Region.binds .any e = true → e.on ≠ i) → oi.apart ops oj = true) →
      i ∈ Region.ready .any ops listed → YieldsIf P ops S oi v a → S w →
      wpAnyL P ops Q S Lt fuel (listed.setIfInBounds i true) (a.put oi.dst v) w → wpAnyL P ops Q S Lt (fuel + 1) listed a w := by
  intro fuel
  induction fuel with
  | zero =>
    intro listed a w _ _ hr hy hS H
    refine ⟨fun h => (by rw [h] at hr; cases hr), fun j hj => ?_⟩
    by_cases hji : j = i
    · subst hji; exact hy.wpOp hi hS ⟨fun _ => hS, H⟩
    · have := ready_mono hj hji
      rw [H.1] at this
      cases this
  | succ fuel ih =>
    intro listed a w hcl hfree hr hy hS H
    refine ⟨fun h => (by rw [h] at hr; cases hr), fun j hj => ?_⟩
    by_cases hji : j = i
    · subst hji; exact hy.wpOp hi hS ⟨fun _ => hS, H⟩
    · have h1 := H.2 j (ready_mono hj hji)
      obtain ⟨hjun, oj, hoj, hall⟩ := mem_ready.1 hj
      have hnot : ∀ e ∈ oj.after, Region.binds .any e = true → e.on ≠ i := fun e he hb heq => by
        have h1 := ready_edges hj hoj e he hb
        have h0 := ready_off hr
        rw [heq, h0] at h1
        cases h1
      have h2 := wpOp_putIf hoj (hfree j oj hoj hji hjun hnot) (fun cs b => hsel i oi cs b hi) (fun cs b => hsel j oj cs b hoj) hQ hy h1
      have hfree' : ∀ k ok, ops[k]? = some ok → k ≠ i → (listed.setIfInBounds j true).getD k true = false →
          (∀ e ∈ ok.after, Region.binds .any e = true → e.on ≠ i) → oi.apart ops ok = true := fun k ok hk hki hun hno => by
        refine hfree k ok hk hki ?_ hno
        by_cases hjk : j = k
        · subst hjk; exact hjun
        · rw [getD_set_ne true hjk] at hun; exact hun
      have hcl' := closed_set hcl hj
      have hoff : (listed.setIfInBounds j true).getD i false = false := by rw [getD_set_far hji]; exact ready_off hr
      have hlt : (listed.setIfInBounds j true).getD Lt false = false := by
        cases hq : (listed.setIfInBounds j true).getD Lt false with
        | false => rfl
        | true => rw [closed_reqs hcl' nn Lt hreq hq] at hoff; cases hoff
      have hlt2 : ((listed.setIfInBounds i true).setIfInBounds j true).getD Lt false = false := by
        rw [Array.setIfInBounds_comm _ _ (Ne.symm hji), getD_set_far hne]; exact hlt
      refine wpOp_mono (fun a' w' h3 => ⟨fun _ => h3.2.1 hlt2, ih (listed.setIfInBounds j true) a' w' hcl' hfree' (ready_mono hr (Ne.symm hji)) h3.1 (h3.2.1 hlt2) ?_⟩) h2
      rw [Array.setIfInBounds_comm _ _ hji]
      exact h3.2.2
end
/-- a step that reads no memory may be taken first wherever it stands -/
theorem wpAnyL_free {P : Program} {ops : Array Oper} {Q : Exit → Act → World → Prop} {S : World → Prop} {Lt i : Nat} {oi : Oper} {v : Value} (hi : ops[i]? = some oi) (hsel : ∀ (j : Nat) (o : Oper) cs b, ops[j]? = some o → o.op ≠ .select cs b)
    (hQ : ∀ c a w, Q (.panic c) (a.put oi.dst v) w → Q (.panic c) a w) (hne : i ≠ Lt) :
    ∀ (fuel : Nat) (listed : Array Bool) (a : Act) (w : World),
      (∀ j oj, ops[j]? = some oj → j ≠ i → listed.getD j true = false → (∀ e ∈ oj.after, Region.binds .any e = true → e.on ≠ i) → oi.apart ops oj = true) →
      i ∈ Region.ready .any ops listed → YieldsIf P ops (fun _ => True) oi v a → (listed.getD Lt false = false → S w) →
      wpAnyL P ops Q S Lt fuel (listed.setIfInBounds i true) (a.put oi.dst v) w → wpAnyL P ops Q S Lt (fuel + 1) listed a w := by
  intro fuel
  induction fuel with
  | zero =>
    intro listed a w _ hr hy hS H
    refine ⟨fun h => (by rw [h] at hr; cases hr), fun j hj => ?_⟩
    by_cases hji : j = i
    · subst hji; exact hy.wpOp hi trivial ⟨fun e => hS (by rwa [getD_set_far hne] at e), H⟩
    · have := ready_mono hj hji
      rw [H.1] at this
      cases this
  | succ fuel ih =>
    intro listed a w hfree hr hy hS H
    refine ⟨fun h => (by rw [h] at hr; cases hr), fun j hj => ?_⟩
    by_cases hji : j = i
    · subst hji; exact hy.wpOp hi trivial ⟨fun e => hS (by rwa [getD_set_far hne] at e), H⟩
    · have h1 := H.2 j (ready_mono hj hji)
      obtain ⟨hjun, oj, hoj, hall⟩ := mem_ready.1 hj
      have hnot : ∀ e ∈ oj.after, Region.binds .any e = true → e.on ≠ i := fun e he hb heq => by
        have h1 := ready_edges hj hoj e he hb
        have h0 := ready_off hr
        rw [heq, h0] at h1
        cases h1
      have h2 := wpOp_putIf hoj (hfree j oj hoj hji hjun hnot) (fun cs b => hsel i oi cs b hi) (fun cs b => hsel j oj cs b hoj) hQ hy h1
      have hfree' : ∀ k ok, ops[k]? = some ok → k ≠ i → (listed.setIfInBounds j true).getD k true = false →
          (∀ e ∈ ok.after, Region.binds .any e = true → e.on ≠ i) → oi.apart ops ok = true := fun k ok hk hki hun hno => by
        refine hfree k ok hk hki ?_ hno
        by_cases hjk : j = k
        · subst hjk; exact hjun
        · rw [getD_set_ne true hjk] at hun; exact hun
      have hc : ∀ w', (((listed.setIfInBounds i true).setIfInBounds j true).getD Lt false = false → S w') → ((listed.setIfInBounds j true).getD Lt false = false → S w') := fun w' h e => h (by rw [Array.setIfInBounds_comm _ _ (Ne.symm hji), getD_set_far hne]; exact e)
      refine wpOp_mono (fun a' w' h3 => ⟨hc w' h3.2.1, ih (listed.setIfInBounds j true) a' w' hfree' (ready_mono hr (Ne.symm hji)) h3.1 (hc w' h3.2.1) ?_⟩) h2
      rw [Array.setIfInBounds_comm _ _ hji]
      exact h3.2.2
/-- the orders: 0 a step that may be taken first and for which the late step waits, 2 one that reads no memory; 1 the only one that may come up -/
def ordG (ops : Array Oper) (Lt : Nat) : List (Nat × Nat) → Array Bool → Bool
  | [], L => Region.ready .any ops L == []
  | (i, b) :: l, L => (if b == 1 then Region.ready .any ops L == [i] else Region.free .any ops L i && (Region.ready .any ops L).contains i && (b == 2 || reqs ops ops.size i Lt) && i != Lt) && ordG ops Lt l (L.setIfInBounds i true)
def regG (ops : Array Oper) (Lt : Nat) (l : List (Nat × Nat)) : Bool := Region.noSelect ops && (l.length == ops.size) && ordG ops Lt l (Array.replicate ops.size false)
structure WG (P : Program) (ops : Array Oper) (Q : Exit → Act → World → Prop) (Lt : Nat) (w0 : World) (l : List (Nat × Nat)) (a : Act) (w : World) : Prop where
  out : Region.noSelect ops = true → (∀ c a (d : Option Tmp) v w, Q (.panic c) (a.put d v) w → Q (.panic c) a w) → Bel w0 w → ∀ L, Closed ops L → L.getD Lt false = false → ordG ops Lt l L = true → wpAnyL P ops Q (Bel w0) Lt l.length L a w
/-- behind the late step -/
structure WF (P : Program) (ops : Array Oper) (Q : Exit → Act → World → Prop) (Lt : Nat) (l : List (Nat × Nat)) (a : Act) (w : World) : Prop where
  out : ∀ L, ordG ops Lt l L = true → wpAny P .any ops Q l.length L a w
section
variable {P : Program} {ops : Array Oper} {Q : Exit → Act → World → Prop} {Lt : Nat} {l : List (Nat × Nat)} {a : Act} {w0 w w' : World} {i : Nat} {o : Oper} {d : Option Tmp} {v : Value}
theorem g_take (hi : ops[i]? = some o) (hw : Region.wanted o (yielded ops a.tmps) = true) (hd : o.dst = d) (hx : ∀ W, Bel w0 W → (execOp a.eval o).run P W = .ok (.value v) W) (h : WG P ops Q Lt w0 l (a.put d v) w) : WG P ops Q Lt w0 ((i, 0) :: l) a w := by
  subst hd
  refine ⟨fun hs hQ hB L hc hl hL => ?_⟩
  unfold ordG at hL
  rw [if_neg (by decide)] at hL
  simp only [Bool.and_eq_true, bne_iff_ne, show ((0 : Nat) == 2) = false from rfl, Bool.false_or] at hL
  obtain ⟨⟨⟨⟨k1, k2⟩, k3⟩, k4⟩, k5⟩ := hL
  exact wpAnyL_first hi (Region.noSelect_spec hs) (fun c a w => hQ c a _ _ w) k4 k3 _ L a w hc (Region.free_spec hi k1) (by simpa using k2) (.inl ⟨hw, hx⟩) hB
    (h.out hs hQ hB _ (closed_set hc (by simpa using k2)) (by rw [getD_set_far k4]; exact hl) k5)
theorem g_free (hi : ops[i]? = some o) (hw : Region.wanted o (yielded ops a.tmps) = true) (hd : o.dst = d) (hx : ∀ W, (execOp a.eval o).run P W = .ok (.value v) W) (h : WG P ops Q Lt w0 l (a.put d v) w) : WG P ops Q Lt w0 ((i, 2) :: l) a w := by
  subst hd
  refine ⟨fun hs hQ hB L hc hl hL => ?_⟩
  unfold ordG at hL
  rw [if_neg (by decide)] at hL
  simp only [Bool.and_eq_true, bne_iff_ne] at hL
  obtain ⟨⟨⟨⟨k1, k2⟩, _⟩, k4⟩, k5⟩ := hL
  exact wpAnyL_free hi (Region.noSelect_spec hs) (fun c a w => hQ c a _ _ w) k4 _ L a w (Region.free_spec hi k1) (by simpa using k2) (.inl ⟨hw, fun W _ => hx W⟩) (fun _ => hB)
    (h.out hs hQ hB _ (closed_set hc (by simpa using k2)) (by rw [getD_set_far k4]; exact hl) k5)
theorem mem_one {L : Array Bool} (h : Region.ready .any ops L = [i]) : i ∈ Region.ready .any ops L := by rw [h]; simp
theorem g_val (hi : ops[i]? = some o) (hne : (i == Lt) = false) (hw : Region.wanted o (yielded ops a.tmps) = true) (hd : o.dst = d) (hx : (execOp a.eval o).run P w = .ok (.value v) w') (hS : Bel w0 w') (h : WG P ops Q Lt w0 l (a.put d v) w') : WG P ops Q Lt w0 ((i, 1) :: l) a w := by
  subst hd
  refine ⟨fun hs hQ hB L hc hl hL => ?_⟩
  unfold ordG at hL
  rw [if_pos (by decide)] at hL
  simp only [Bool.and_eq_true, beq_iff_eq] at hL
  have hne' : i ≠ Lt := by simpa using hne
  have hl' : (L.setIfInBounds i true).getD Lt false = false := by rw [getD_set_far hne']; exact hl
  refine ⟨fun h0 => (by rw [hL.1] at h0; cases h0), fun j hj => ?_⟩
  rw [hL.1] at hj
  obtain rfl : j = i := by simpa using hj
  refine wpOp_step hi (fun K' hK => ?_)
  rw [if_pos hw]
  unfold Oper.wp
  rw [hx, Oper.upon_value]
  exact hK _ _ ⟨fun _ => hS, h.out hs hQ hS _ (closed_set hc (mem_one hL.1)) hl' hL.2⟩
theorem g_late (hi : ops[Lt]? = some o) (hw : Region.wanted o (yielded ops a.tmps) = true) (hd : o.dst = d) (hx : (execOp a.eval o).run P w = .ok (.value v) w') (hlt : Lt < ops.size) (h : WF P ops Q Lt l (a.put d v) w') : WG P ops Q Lt w0 ((Lt, 1) :: l) a w := by
  subst hd
  refine ⟨fun hs hQ hB L hc hl hL => ?_⟩
  unfold ordG at hL
  rw [if_pos (by decide)] at hL
  simp only [Bool.and_eq_true, beq_iff_eq] at hL
  have hin : (L.setIfInBounds Lt true).getD Lt false = true := by
    have h1 := mem_one hL.1
    unfold Region.ready at h1
    rw [List.mem_filter] at h1
    have h2 := h1.2
    simp only [Bool.and_eq_true, Bool.not_eq_true'] at h2
    have h3 := h2.1
    simp only [Array.getD_eq_getD_getElem?] at *
    cases hq : L[Lt]? with
    | none => rw [hq] at h3; simp at h3
    | some b =>
      have h4 := (Array.getElem?_eq_some_iff.1 hq).1
      simp [h4]
  refine ⟨fun h0 => (by rw [hL.1] at h0; cases h0), fun j hj => ?_⟩
  rw [hL.1] at hj
  obtain rfl : j = Lt := by simpa using hj
  refine wpOp_step hi (fun K' hK => ?_)
  rw [if_pos hw]
  unfold Oper.wp
  rw [hx, Oper.upon_value]
  exact hK _ _ ⟨fun e => (by rw [hin] at e; cases e), wpAnyL_of_any _ _ _ _ hin (h.out _ hL.2)⟩
theorem f_one (hi : ops[i]? = some o) (hw : Region.wanted o (yielded ops a.tmps) = true) (hd : o.dst = d) (hx : (execOp a.eval o).run P w = .ok (.value v) w') (h : WF P ops Q Lt l (a.put d v) w') : WF P ops Q Lt ((i, 1) :: l) a w := by
  refine ⟨fun L hL => ?_⟩
  unfold ordG at hL
  rw [if_pos (by decide)] at hL
  simp only [Bool.and_eq_true, beq_iff_eq] at hL
  exact (a_one hL.1 hi hw hd hx ⟨h.out _ hL.2⟩).out
theorem f_unit (hi : ops[i]? = some o) (hw : Region.wanted o (yielded ops a.tmps) = true) (hd : o.dst = none) (hx : (execOp a.eval o).run P w = .ok .skip w') (h : WF P ops Q Lt l a w') : WF P ops Q Lt ((i, 1) :: l) a w := by
  refine ⟨fun L hL => ?_⟩
  unfold ordG at hL
  rw [if_pos (by decide)] at hL
  simp only [Bool.and_eq_true, beq_iff_eq] at hL
  exact (a_unit hL.1 hi hw hd hx ⟨h.out _ hL.2⟩).out
theorem f_done (h : Q .normal a w) : WF P ops Q Lt [] a w := ⟨fun L hL => by
  unfold ordG at hL
  exact wpAny_done (beq_iff_eq.1 hL) h _⟩
theorem wp_region_WG {id : Nat} (hm : P.follows .mixedOrders = true) (hok : regG ops Lt l = true) (hQ : ∀ c a (d : Nat) v w, Q (.panic c) (a.put (some d) v) w → Q (.panic c) a w) (h : WG P ops Q Lt w.drew l a w.drew) : (Code.region id ops true).wp P Q a w := by
  unfold regG at hok
  simp only [Bool.and_eq_true, beq_iff_eq] at hok
  have := h.out hok.1.1 (fun c a d v w h => by
    cases d with
    | none => exact h
    | some d => exact hQ c a d v w h) (Bel.refl _) _ (closed_start ops ops.size) (rep_off _ _) hok.2
  rw [hok.1.2] at this
  exact wp_region_any hm (wpAny_of_L _ _ _ _ this)
end
end Go.Proofs.Ytabnlnhnefjebaa
