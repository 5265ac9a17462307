/-
  The plain law of chapter 41: blocks of records, reading them back, what a crash leaves. No program in sight; no conditions.
-/
import Derived.Test.YtabnlnhnefjebaaKit
namespace Go.Proofs.Ytabnlnhnefjebaa
set_option linter.unusedVariables false
set_option linter.unusedSimpArgs false

def byteOk (l : List Int) : Prop := ∀ x ∈ l, 0 ≤ x ∧ x ≤ 255
theorem byteOk_take {l : List Int} (h : byteOk l) (n : Nat) : byteOk (l.take n) := fun x hx => h x (List.mem_of_mem_take hx)
theorem byteOk_drop {l : List Int} (h : byteOk l) (n : Nat) : byteOk (l.drop n) := fun x hx => h x (List.mem_of_mem_drop hx)
theorem byteOk_app {a b : List Int} (ha : byteOk a) (hb : byteOk b) : byteOk (a ++ b) := fun x hx => by
  rcases List.mem_append.1 hx with h | h
  · exact ha x h
  · exact hb x h
theorem byteOk_rep (n : Nat) (v : Int) (h0 : 0 ≤ v) (h1 : v ≤ 255) : byteOk (List.replicate n v) := fun x hx => by
  rw [List.eq_of_mem_replicate hx]; exact ⟨h0, h1⟩
theorem byteOk_flat {L : List (List Int)} (h : ∀ l ∈ L, byteOk l) : byteOk L.flatten := fun x hx => by
  obtain ⟨l, hl, hxl⟩ := List.mem_flatten.1 hx
  exact h l hl x hxl
theorem byteOk_at {l : List Int} (h : byteOk l) (i : Nat) : 0 ≤ at1 l i ∧ at1 l i ≤ 255 := by
  unfold at1
  rw [List.getD_eq_getElem?_getD]
  rcases Nat.lt_or_ge i l.length with hi | hi
  · rw [List.getElem?_eq_getElem hi]; exact h _ (List.getElem_mem hi)
  · rw [List.getElem?_eq_none hi]; simp

/-- the number of blocks of a record, and of records -/
def need (r : List Int) : Nat := (r.length + 25) / 26
def needs (rs : List (List Int)) : Nat := (rs.map need).sum
theorem needs_nil : needs [] = 0 := rfl
theorem needs_cons (r : List Int) (rs : List (List Int)) : needs (r :: rs) = need r + needs rs := by simp [needs]
theorem needs_app (a b : List (List Int)) : needs (a ++ b) = needs a + needs b := by simp [needs]
theorem needs_snoc (a : List (List Int)) (r : List Int) : needs (a ++ [r]) = needs a + need r := by simp [needs]
theorem needs_take_succ (l : List (List Int)) (i : Nat) (h : i < l.length) : needs (l.take (i + 1)) = needs (l.take i) + need l[i] := by
  rw [List.take_succ_eq_append_getElem h, needs_snoc]
theorem needs_take_le (l : List (List Int)) (i : Nat) : needs (l.take i) ≤ needs l := by
  have := needs_app (l.take i) (l.drop i)
  rw [List.take_append_drop] at this
  omega

/-- the block with a number -/
def blk (n : Nat) (d : List Int) (last : Bool) : List Int :=
  [((n / 16777216 % 256 : Nat) : Int), ((n / 65536 % 256 : Nat) : Int), ((n / 256 % 256 : Nat) : Int), ((n % 256 : Nat) : Int), (d.length : Int) + (if last then 128 else 0)] ++ d ++ List.replicate (26 - d.length) 0 ++ [165]
theorem blk_len (n : Nat) (d : List Int) (last : Bool) (h : d.length ≤ 26) : (blk n d last).length = 32 := by simp [blk]; omega
theorem blk_ok (n : Nat) (d : List Int) (last : Bool) (hd : byteOk d) (h : d.length ≤ 26) : byteOk (blk n d last) := by
  unfold blk
  refine byteOk_app (byteOk_app (byteOk_app ?_ hd) (byteOk_rep _ _ (by omega) (by omega))) ?_
  · intro x hx
    simp only [List.mem_cons, List.not_mem_nil, or_false] at hx
    rcases hx with rfl | rfl | rfl | rfl | rfl
    · omega
    · omega
    · omega
    · omega
    · split <;> omega
  · intro x hx
    simp at hx
    omega
theorem blk_at4 (n : Nat) (d : List Int) (last : Bool) : at1 (blk n d last) 4 = (d.length : Int) + (if last then 128 else 0) := by simp [blk, at1]
theorem blk_at31 (n : Nat) (d : List Int) (last : Bool) (h : d.length ≤ 26) : at1 (blk n d last) 31 = 165 := by
  unfold at1 blk
  rw [List.getD_eq_getElem?_getD, List.getElem?_append_right (by simp; omega)]
  have : 31 - ([((n / 16777216 % 256 : Nat) : Int), ((n / 65536 % 256 : Nat) : Int), ((n / 256 % 256 : Nat) : Int), ((n % 256 : Nat) : Int), (d.length : Int) + (if last then 128 else 0)] ++ d ++ List.replicate (26 - d.length) 0).length = 0 := by simp; omega
  rw [this]
  rfl

/-- what a block says -/
def bsize (x : List Int) : Nat := (at1 x 4 % 128).toNat
def blast (x : List Int) : Bool := decide (128 ≤ at1 x 4)
def bdata (x : List Int) : List Int := (x.drop 5).take (bsize x)
def formed (n : Nat) (x : List Int) : Bool := decide (1 ≤ bsize x ∧ bsize x ≤ 26 ∧ (blast x = true ∨ bsize x = 26) ∧ x = blk n (bdata x) (blast x))
theorem bsize_blk (n : Nat) (d : List Int) (last : Bool) (h : d.length ≤ 26) : bsize (blk n d last) = d.length := by
  unfold bsize
  rw [blk_at4]
  split <;> omega
theorem blast_blk (n : Nat) (d : List Int) (last : Bool) (h : d.length ≤ 26) : blast (blk n d last) = last := by
  unfold blast
  rw [blk_at4]
  cases last <;> simp <;> omega
theorem bdata_blk (n : Nat) (d : List Int) (last : Bool) (h : d.length ≤ 26) : bdata (blk n d last) = d := by
  unfold bdata
  rw [bsize_blk n d last h]
  simp [blk, List.append_assoc, List.take_append_of_le_length, List.take_append]
theorem formed_blk (n : Nat) (d : List Int) (last : Bool) (h : d.length ≤ 26) (h0 : 1 ≤ d.length) (hl : last = true ∨ d.length = 26) : formed n (blk n d last) = true := by
  unfold formed
  rw [bdata_blk n d last h, blast_blk n d last h, bsize_blk n d last h]
  simp [h, h0, hl]
theorem formed_end {n : Nat} {x : List Int} (h : formed n x = true) : at1 x 31 = 165 := by
  unfold formed at h
  have h := of_decide_eq_true h
  have hl : (bdata x).length ≤ 26 := by unfold bdata; rw [List.length_take]; omega
  rw [h.2.2.2]
  exact blk_at31 _ _ _ hl
theorem formed_eq {n : Nat} {x : List Int} (h : formed n x = true) : x = blk n (bdata x) (blast x) ∧ 1 ≤ bsize x ∧ bsize x ≤ 26 ∧ (blast x = true ∨ bsize x = 26) := by
  unfold formed at h
  have h := of_decide_eq_true h
  exact ⟨h.2.2.2, h.1, h.2.1, h.2.2.1⟩
theorem bdata_len {x : List Int} (hx : x.length = 32) (h : bsize x ≤ 26) : (bdata x).length = bsize x := by unfold bdata; simp; omega

/-- the blocks of a record behind n blocks; of records -/
def brec (n : Nat) (r : List Int) : List (List Int) :=
  if h : r = [] then [] else blk (n + 1) (r.take 26) (decide (r.length ≤ 26)) :: brec (n + 1) (r.drop 26)
termination_by r.length
decreasing_by
  simp only [List.length_drop]
  have : 0 < r.length := List.length_pos_iff.2 h
  omega
theorem brec_nil (n : Nat) : brec n [] = [] := by rw [brec]; simp
theorem brec_cons (n : Nat) (r : List Int) (h : r ≠ []) : brec n r = blk (n + 1) (r.take 26) (decide (r.length ≤ 26)) :: brec (n + 1) (r.drop 26) := by rw [brec]; simp [h]
theorem need_nil : need [] = 0 := rfl
theorem need_drop (r : List Int) (h : r ≠ []) : need r = need (r.drop 26) + 1 := by
  have : 0 < r.length := List.length_pos_iff.2 h
  unfold need
  rw [List.length_drop]
  omega
theorem need_pos (r : List Int) (h : r ≠ []) : 1 ≤ need r := by have := need_drop r h; omega
theorem rec_ind {C : List Int → Prop} (h0 : C []) (h1 : ∀ r, r ≠ [] → C (r.drop 26) → C r) (r : List Int) : C r := by
  suffices ∀ k (r : List Int), r.length ≤ k → C r from this _ r (Nat.le_refl _)
  intro k
  induction k with
  | zero =>
    intro r h
    have e : r = [] := List.eq_nil_of_length_eq_zero (by omega)
    rw [e]; exact h0
  | succ k ih =>
    intro r h
    by_cases hr : r = []
    · rw [hr]; exact h0
    · have : 0 < r.length := List.length_pos_iff.2 hr
      exact h1 r hr (ih _ (by rw [List.length_drop]; omega))
theorem brec_len (r : List Int) : ∀ n, (brec n r).length = need r := by
  refine rec_ind (C := fun r => ∀ n, (brec n r).length = need r) ?_ ?_ r
  · intro n; rw [brec_nil]; rfl
  · intro r hr ih n; rw [brec_cons n r hr, List.length_cons, ih, ← need_drop r hr]
def brecs (n : Nat) : List (List Int) → List (List Int)
  | [] => []
  | r :: rs => brec n r ++ brecs (n + need r) rs
theorem brecs_len (rs : List (List Int)) : ∀ n, (brecs n rs).length = needs rs := by
  induction rs with
  | nil => intro n; rfl
  | cons r rs ih => intro n; rw [brecs, List.length_append, brec_len, ih, needs_cons]
theorem brecs_app (a b : List (List Int)) : ∀ n, brecs n (a ++ b) = brecs n a ++ brecs (n + needs a) b := by
  induction a with
  | nil => intro n; simp [brecs, needs_nil]
  | cons r a ih =>
    intro n
    rw [List.cons_append, brecs, ih, brecs, needs_cons, List.append_assoc, Nat.add_assoc]
theorem brecs_snoc (a : List (List Int)) (r : List Int) (n : Nat) : brecs n (a ++ [r]) = brecs n a ++ brec (n + needs a) r := by
  rw [brecs_app]; simp [brecs]
theorem brec_each (r : List Int) (hr : byteOk r) : ∀ n x, x ∈ brec n r → x.length = 32 ∧ byteOk x := by
  revert hr
  refine rec_ind (C := fun r => byteOk r → ∀ n x, x ∈ brec n r → x.length = 32 ∧ byteOk x) ?_ ?_ r
  · intro _ n x hx; rw [brec_nil] at hx; simp at hx
  · intro r hr ih hok n x hx
    rw [brec_cons n r hr] at hx
    rcases List.mem_cons.1 hx with rfl | hx
    · have hl : (r.take 26).length ≤ 26 := by simp; omega
      exact ⟨blk_len _ _ _ hl, blk_ok _ _ _ (byteOk_take hok 26) hl⟩
    · exact ih (byteOk_drop hok 26) _ _ hx
def recsOk (rs : List (List Int)) : Prop := ∀ r ∈ rs, byteOk r ∧ 1 ≤ r.length ∧ r.length ≤ 4096
theorem recsOk_snoc {rs : List (List Int)} {r : List Int} (h : recsOk rs) (hr : byteOk r) (h1 : 1 ≤ r.length) (h2 : r.length ≤ 4096) : recsOk (rs ++ [r]) := by
  intro x hx
  rcases List.mem_append.1 hx with hx | hx
  · exact h x hx
  · simp at hx; subst hx; exact ⟨hr, h1, h2⟩
theorem brecs_each (rs : List (List Int)) : (∀ r ∈ rs, byteOk r) → ∀ n x, x ∈ brecs n rs → x.length = 32 ∧ byteOk x := by
  induction rs with
  | nil => intro _ n x hx; simp [brecs] at hx
  | cons r rs ih =>
    intro h n x hx
    rw [brecs] at hx
    rcases List.mem_append.1 hx with hx | hx
    · exact brec_each r (h r (by simp)) n x hx
    · exact ih (fun y hy => h y (by simp [hy])) _ _ hx

/-- full blocks of a record that is not whole yet -/
def part (n : Nat) (r : List Int) : List (List Int) :=
  if h : r = [] then [] else blk (n + 1) (r.take 26) false :: part (n + 1) (r.drop 26)
termination_by r.length
decreasing_by
  simp only [List.length_drop]
  have : 0 < r.length := List.length_pos_iff.2 h
  omega
theorem part_nil (n : Nat) : part n [] = [] := by rw [part]; simp
theorem part_cons (n : Nat) (r : List Int) (h : r ≠ []) : part n r = blk (n + 1) (r.take 26) false :: part (n + 1) (r.drop 26) := by rw [part]; simp [h]
theorem part_len (r : List Int) : ∀ n, (part n r).length = need r := by
  refine rec_ind (C := fun r => ∀ n, (part n r).length = need r) ?_ ?_ r
  · intro n; rw [part_nil]; rfl
  · intro r hr ih n; rw [part_cons n r hr, List.length_cons, ih, ← need_drop r hr]
theorem full_26 {r : List Int} (h : r ≠ []) (hm : r.length % 26 = 0) : 26 ≤ r.length := by
  have : 0 < r.length := List.length_pos_iff.2 h
  omega
theorem part_snoc (r d : List Int) (hd : d.length = 26) : r.length % 26 = 0 → ∀ n, part n (r ++ d) = part n r ++ [blk (n + need r + 1) d false] := by
  have hd0 : d ≠ [] := fun e => by rw [e] at hd; simp at hd
  refine rec_ind (C := fun r => r.length % 26 = 0 → ∀ n, part n (r ++ d) = part n r ++ [blk (n + need r + 1) d false]) ?_ ?_ r
  · intro _ n
    rw [List.nil_append, part_cons n d hd0, part_nil, need_nil, List.take_of_length_le (by omega), List.drop_of_length_le (by omega), part_nil]
    simp
  · intro r hr ih hm n
    have h26 := full_26 hr hm
    rw [part_cons n (r ++ d) (by simp [hr]), part_cons n r hr, List.take_append_of_le_length h26, List.drop_append_of_le_length h26, ih (by rw [List.length_drop]; omega), need_drop r hr, List.cons_append, show n + 1 + need (r.drop 26) + 1 = n + (need (r.drop 26) + 1) + 1 by omega]
theorem brec_part (r d : List Int) (hd : d ≠ []) (hl : d.length ≤ 26) : r.length % 26 = 0 → ∀ n, brec n (r ++ d) = part n r ++ [blk (n + need r + 1) d true] := by
  refine rec_ind (C := fun r => r.length % 26 = 0 → ∀ n, brec n (r ++ d) = part n r ++ [blk (n + need r + 1) d true]) ?_ ?_ r
  · intro _ n
    rw [List.nil_append, brec_cons n d hd, part_nil, need_nil, List.take_of_length_le hl, List.drop_of_length_le hl, brec_nil]
    simp [hl]
  · intro r hr ih hm n
    have h26 := full_26 hr hm
    have hp : 0 < d.length := List.length_pos_iff.2 hd
    have hgt : decide ((r ++ d).length ≤ 26) = false := by simp; omega
    rw [brec_cons n (r ++ d) (by simp [hr]), part_cons n r hr, List.take_append_of_le_length h26, List.drop_append_of_le_length h26, ih (by rw [List.length_drop]; omega), need_drop r hr, hgt, List.cons_append, show n + 1 + need (r.drop 26) + 1 = n + (need (r.drop 26) + 1) + 1 by omega]
theorem need_app (r d : List Int) (hm : r.length % 26 = 0) : need (r ++ d) = need r + need d := by unfold need; simp; omega
theorem need_full (r : List Int) (hm : r.length % 26 = 0) : need r * 26 = r.length := by unfold need; omega
theorem need_small (d : List Int) (h0 : 1 ≤ d.length) (h1 : d.length ≤ 26) : need d = 1 := by unfold need; omega

/-- reading -/
def opnA : Nat → Nat → List Int → List Int → List (List Int)
  | 0, _, _, _ => []
  | k + 1, n, now, b =>
    if b.length < 32 then [] else
    if formed (n + 1) (b.take 32) = false ∨ 4096 < now.length + bsize (b.take 32) then [] else
    if blast (b.take 32) = true then (now ++ bdata (b.take 32)) :: opnA k (n + 1) [] (b.drop 32) else opnA k (n + 1) (now ++ bdata (b.take 32)) (b.drop 32)
def opn (b : List Int) : List (List Int) := opnA 16384 0 [] b
theorem opnA_zero (n : Nat) (now b : List Int) : opnA 0 n now b = [] := rfl
theorem opnA_short (k n : Nat) (now b : List Int) (h : b.length < 32) : opnA k n now b = [] := by
  cases k with
  | zero => rfl
  | succ k => rw [opnA, if_pos h]
theorem opnA_bad (k n : Nat) (now b : List Int) (h : formed (n + 1) (b.take 32) = false ∨ 4096 < now.length + bsize (b.take 32)) : opnA k n now b = [] := by
  cases k with
  | zero => rfl
  | succ k =>
    rw [opnA]
    by_cases hs : b.length < 32
    · rw [if_pos hs]
    · rw [if_neg hs, if_pos h]
theorem opnA_last (k n : Nat) (now b : List Int) (h1 : 32 ≤ b.length) (h2 : formed (n + 1) (b.take 32) = true) (h3 : now.length + bsize (b.take 32) ≤ 4096) (h4 : blast (b.take 32) = true) :
    opnA (k + 1) n now b = (now ++ bdata (b.take 32)) :: opnA k (n + 1) [] (b.drop 32) := by
  rw [opnA, if_neg (by omega), if_neg (by rw [h2]; simp; omega), if_pos h4]
theorem opnA_more (k n : Nat) (now b : List Int) (h1 : 32 ≤ b.length) (h2 : formed (n + 1) (b.take 32) = true) (h3 : now.length + bsize (b.take 32) ≤ 4096) (h4 : blast (b.take 32) = false) :
    opnA (k + 1) n now b = opnA k (n + 1) (now ++ bdata (b.take 32)) (b.drop 32) := by
  rw [opnA, if_neg (by omega), if_neg (by rw [h2]; simp; omega), if_neg (by rw [h4]; simp)]
end Go.Proofs.Ytabnlnhnefjebaa
