/-
  Contract of Tape.SpoilZone: a zone in memory of its own, of whatever content.
-/
import Derived.Test.YtagkdkkpgcolkaaZoneGen
import Derived.Test.YtagkdkkpgcolkaaAppRd
import Derived.Test.YtagkdkkpgcolkaaTriple
namespace Go.Proofs.Ytagkdkkpgcolkaa
open Go.RowKit
set_option linter.unusedVariables false
set_option linter.unusedSimpArgs false

theorem flat2_len (l : List (Int × Int)) : (flat2 l).length = l.length * 2 := by
  induction l with
  | nil => rfl
  | cons a t ih => simp [flat2] at ih ⊢; omega
theorem src_rdP {w : World} {B : Nat} {A : Option Addr} {l : List (Int × Int)} (h : RdP w B A l) : Src w 2 A l.length (flat2 l) :=
  src_rd (flat2 l) (flat2_len l) (fun i j hi hj => by
    have := flat2_get l i hi
    rcases (show j = 0 ∨ j = 1 by omega) with rfl | rfl
    · simpa [pairCell] using this.1
    · simpa [pairCell] using this.2) h

/-- in the middle of the spoiling: the zone's variable, the result's, and the list of the call's own -/
structure SP (w : World) (g : Nat) (M : Int) (o : Int) (A : Option Addr) (c n : Nat) (B : Option Addr) (d : Nat) (s : List (Int × Int)) (W : World) : Prop where
  deck : Deck W g M
  only : Only g w W
  box : Blk W w.heap.size 25 #[.int .i64 o, .slice A n c]
  res : Blk W (w.heap.size + 1) 25 #[.int .i64 0, .slice none 0 0]
  own : OwnZ W (w.heap.size + 2) B d s
def SpoilPost (g : Nat) (M : Int) (w : World) (e : Ending) (w' : World) : Prop :=
  ∃ o A c l, e = .returned (.agg #[.int .i64 o, .slice A l.length c]) ∧ l.length ≤ 10 ∧ RdP w' w'.heap.size A l ∧ (∀ b off, A = some ⟨b, off, none⟩ → w.heap.size ≤ b) ∧ Only g w w' ∧ Deck w' g M
section
variable {w W W' : World} {g c n d : Nat} {M M' o o' : Int} {A B : Option Addr} {s : List (Int × Int)}
theorem SP.draw (h : SP w g M o A c n B d s W) (hgl : g < w.heap.size) (ho : Only g W W') (hD : Deck W' g M') : SP w g M' o A c n B d s W' :=
  ⟨hD, h.only.trans ho, h.box.grown ho (by intro e; injection e; omega), h.res.grown ho (by intro e; injection e; omega), h.own.only ho (by omega)⟩
theorem SP.app (h : SP w g M o A c n B d s W) (hgl : g < w.heap.size) {B' : Option Addr} {d' : Nat} {s' : List (Int × Int)} {ob : Obj} (hown : OwnZ W' (w.heap.size + 2) B' d' s') (hb : Below (w.heap.size + 2) (W.alloc ob) W') : SP w g M o A c n B' d' s' W' :=
  ⟨(h.deck.alloc ob).below hb (by omega), only_bel (h.only.alloc ob) (hb.mono (by omega)), (h.box.alloc ob).below hb (by omega), (h.res.alloc ob).below hb (by omega), hown⟩
theorem SP.seto (h : SP w g M o A c n B d s W) (hgl : g < w.heap.size) : SP w g M o' A c n B d s (W.setCell ⟨w.heap.size, 0, none⟩ (.int .i64 o')) := by
  have ho : Only w.heap.size W (W.setCell ⟨w.heap.size, 0, none⟩ (.int .i64 o')) := (Only.refl w.heap.size W).setCell (p := ⟨w.heap.size, 0, none⟩) (.inl rfl) _
  refine ⟨h.deck.only ho hgl, h.only.setCell (p := ⟨w.heap.size, 0, none⟩) (.inr (Nat.le_refl _)) _, ?_, h.res.grown ho (by intro e; injection e; omega), h.own.only ho (by omega)⟩
  have := h.box.set_ 0 (.int .i64 o')
  simpa using this
theorem SP.setl {k : Nat} {x v : Int} {y : Int} {r : List (Int × Int)} (h : SP w g M o A c n (some ⟨k, 0, none⟩) d ((x, y) :: r) W) (hgl : g < w.heap.size) : SP w g M o A c n (some ⟨k, 0, none⟩) d ((x, v) :: r) (W.setCell ⟨k, 1, none⟩ (.int .i64 v)) := by
  have hk := (World.ownsRow.lt h.own k rfl).1
  have ho : Only k W (W.setCell ⟨k, 1, none⟩ (.int .i64 v)) := (Only.refl k W).setCell (p := ⟨k, 1, none⟩) (.inl rfl) _
  refine ⟨h.deck.only ho (by omega), h.only.setCell (p := ⟨k, 1, none⟩) (.inr (by show w.heap.size ≤ k; omega)) _, h.box.grown ho (by intro e; injection e; omega), h.res.grown ho (by intro e; injection e; omega), ?_⟩
  have := (World.ownsRow.stored h.own 1 (.int .i64 v)).1
  unfold OwnZ
  simpa [flat2] using this
theorem SP.fin (h : SP w g M o A c n B d s W) (hgl : g < w.heap.size) (hs : s.length ≤ 10) {W' : World} (hW : W' = ((W.setCell ⟨w.heap.size, 1, none⟩ (.slice B s.length d)).setCell ⟨w.heap.size + 1, 0, none⟩ (.int .i64 o)).setCell ⟨w.heap.size + 1, 1, none⟩ (.slice B s.length d)) : SpoilPost g M w (.returned (.agg #[.int .i64 o, .slice B s.length d])) W' := by
  subst hW
  have h1 : Only w.heap.size W (W.setCell ⟨w.heap.size, 1, none⟩ (.slice B s.length d)) := (Only.refl w.heap.size W).setCell (p := ⟨w.heap.size, 1, none⟩) (.inl rfl) _
  have h2 : Only (w.heap.size + 1) (W.setCell ⟨w.heap.size, 1, none⟩ (.slice B s.length d)) (((W.setCell ⟨w.heap.size, 1, none⟩ (.slice B s.length d)).setCell ⟨w.heap.size + 1, 0, none⟩ (.int .i64 o)).setCell ⟨w.heap.size + 1, 1, none⟩ (.slice B s.length d)) :=
    ((Only.refl (w.heap.size + 1) _).setCell (p := ⟨w.heap.size + 1, 0, none⟩) (.inl rfl) _).setCell (p := ⟨w.heap.size + 1, 1, none⟩) (.inl rfl) _
  refine ⟨o, B, d, s, rfl, hs, own_rd2 ((h.own.only h1 (by omega)).only h2 (by omega)), ?_, ?_, (h.deck.only h1 (by omega)).only h2 (by omega)⟩
  · rintro b off rfl
    have := (World.ownsRow.lt h.own b rfl).1
    omega
  · exact ((h.only.setCell (p := ⟨w.heap.size, 1, none⟩) (.inr (Nat.le_refl _)) _).setCell (p := ⟨w.heap.size + 1, 0, none⟩) (.inr (by show w.heap.size ≤ w.heap.size + 1; omega)) _).setCell (p := ⟨w.heap.size + 1, 1, none⟩) (.inr (by show w.heap.size ≤ w.heap.size + 1; omega)) _
end

set_option maxHeartbeats 1600000 in
theorem spoilZone_any (g : Nat) (N o : Int) (A : Option Addr) (c : Nat) (l : List (Int × Int)) (w : World) (hD : Deck w g N) (hN : N ≤ 800000) (hr : RdP w w.heap.size A l) (hl : l.length ≤ 3) :
    Calls Try.prog 13 #[.pointer (some ⟨g, 0, none⟩), .agg #[.int .i64 o, .slice A l.length c]] w (SpoilPost g (N + 2) w) := by
  have hgl := hD.lt
  obtain ⟨i0, hi, hz0, hz1, hz2⟩ := info_parts infoCC
  have HD := Lib.hid hD
  have HR := Lib.hid hr
  clear hD hr
  go_enter Try.func13, Try.ntmps13
  go_wp2_with (at_builtin; go_must (refine wpList_append_src _ rfl _ _ 23 rfl (w.heap.size + 2) 68 i0 _ 2 16 Try.underlying23 hi hz0 hz1 hz2 rfl (by decide) (some ⟨w.heap.size + 2, 0, none⟩) 0 0 [] rfl ?o1 A l.length c (flat2 l) rfl ?o2 ?o3 ?o4 ?o5 ?o6 ?_))
  case o1 => 
    have := World.ownsRow_lit (base := w.heap.size + 2) (e := 68) (size := 2) ((w.alloc (.cells #[.int .i64 o, .slice A l.length c] 25)).alloc (.cells #[.int .i64 0, .slice none 0 0] 25)) #[] 0 (by simp) (by simp [maxLen]) rfl
    simpa using this
  case o2 => exact src_rdP (HR.out.below ((((Below.refl _ _).alloc (Nat.le_refl _) _).alloc (by simp) _).alloc (by simp; omega) _))
  case o3 => exact flat2_one l
  case o4 => unfold maxLen; omega
  case o5 => omega
  case o6 => simp
  intro B d w1 hown hb1 hcl
  have HSP : Hid (SP w g N o A c l.length B d l w1) := Lib.hid (by
    exact ⟨(((HD.out.alloc _).alloc _).alloc _).below hb1 (by omega), only_bel ((((Only.refl g w).alloc _).alloc _).alloc _) (hb1.mono (by omega)), ((Blk.new w _ _).alloc _ |>.alloc _).below hb1 (by omega), ((Blk.new' (by simp)).alloc _).below hb1 (by omega), by simpa [OwnZ] using hown⟩)
  clear hown hb1 hcl HD HR
  go_wp2_with fail
  refine (next_any g N _ _ HSP.out.deck (by omega) (by omega) (by omega)).mono ?_
  rintro e w2 ⟨v, rfl, hv, ho, hD⟩
  have HSP := Lib.hid (HSP.out.draw hgl ho hD)
  clear ho hD
  have hv4 : v = 0 ∨ v = 1 ∨ v = 2 ∨ v = 3 := by omega
  have hs2 := HSP.out.res.lt
  have x0 := HSP.out.box.cell 0
  have x1 := HSP.out.box.cell 1
  have xf0 := HSP.out.box.frozen 0
  have xf1 := HSP.out.box.frozen 1
  have r0 := HSP.out.res.cell 0
  have r1 := HSP.out.res.cell 1
  have rf0 := HSP.out.res.frozen 0
  have rf1 := HSP.out.res.frozen 1
  simp at x0 x1 r0 r1
  rcases hv4 with rfl | rfl | rfl | rfl
  · clear hv x0 x1 xf0 xf1 r0 r1 rf0 rf1
    go_wp2_with fail
    refine (pick_new g (N + 1) [841, -841] w2 3 2 HSP.out.deck (by omega) (by decide) (by decide)).mono ?_
    rintro e w3 ⟨u, rfl, hu, ho, hD⟩
    have HSP := Lib.hid (HSP.out.draw hgl ho (hD.more (show N + 1 + 1 ≤ N + 2 by omega)))
    clear ho hD
    have x0 := HSP.out.box.cell 0
    have x1 := HSP.out.box.cell 1
    have xf0 := HSP.out.box.frozen 0
    have xf1 := HSP.out.box.frozen 1
    have r0 := HSP.out.res.cell 0
    have r1 := HSP.out.res.cell 1
    have rf0 := HSP.out.res.frozen 0
    have rf1 := HSP.out.res.frozen 1
    simp at x0 x1 r0 r1
    go_wp2
    exact bodyPost_ret (v := .agg #[.int .i64 u, .slice B l.length d]) (by simp [results, Try.results13, go_sem, x0, x1, r0, r1]) rfl ((HSP.out.seto (o' := u) hgl).fin hgl (by omega) rfl)
  · clear hv x0 x1 xf0 xf1 r0 r1 rf0 rf1
    go_wp2_with fail
    refine (pick_new g (N + 1) [-1, 120968640, 0] w2 3 3 HSP.out.deck (by omega) (by decide) (by decide)).mono ?_
    rintro e w3 ⟨u, rfl, hu, ho, hD⟩
    have HSP := Lib.hid (HSP.out.draw hgl ho (hD.more (show N + 1 + 1 ≤ N + 2 by omega)))
    have hs3 := HSP.out.res.lt
    clear ho hD
    go_wp2_with (at_builtin; go_must (refine wpList_append_sk _ rfl _ _ 23 rfl (w.heap.size + 2) 68 i0 _ 2 16 Try.underlying23 hi hz0 hz1 hz2 rfl (by decide) B d l.length (flat2 l) rfl (by exact HSP.out.own.alloc _) ⟨_, 0, none⟩ 1 1 [.int .i64 u, .int .i64 60] rfl rfl ?c1 ?c2 ?c3 ?c4 ?c5 ?_))
    case c1 => exact cells_at _ _ [.int .i64 u, .int .i64 60] _ (by simp)
    case c2 => exact ints_one2 _ _
    case c3 => unfold maxLen; omega
    case c4 => omega
    case c5 => simp; omega
    intro B2 d2 w4 hown hb hcl
    have HSP2 := Lib.hid (HSP.out.app hgl (ownZ_snoc (x := (u, 60)) hown) hb)
    clear hown hb hcl
    have x0 := HSP2.out.box.cell 0
    have x1 := HSP2.out.box.cell 1
    have xf0 := HSP2.out.box.frozen 0
    have xf1 := HSP2.out.box.frozen 1
    have r0 := HSP2.out.res.cell 0
    have r1 := HSP2.out.res.cell 1
    have rf0 := HSP2.out.res.frozen 0
    have rf1 := HSP2.out.res.frozen 1
    simp at x0 x1 r0 r1
    go_wp2
    have HF := Lib.hid (HSP2.out.fin hgl (by simp; omega) rfl)
    simp only [List.length_append, List.length_cons, List.length_nil, Nat.zero_add] at HF
    exact bodyPost_ret (v := .agg #[.int .i64 o, .slice B2 (l.length + 1) d2]) (by simp [results, Try.results13, go_sem, x0, x1, r0, r1]) rfl HF.out
  · clear hv
    by_cases h0 : 0 < l.length
    · obtain ⟨s, y, hsy⟩ : ∃ s y, l = s ++ [y] := ⟨l.dropLast, l.getLast (by intro h; rw [h] at h0; simp at h0), (List.dropLast_concat_getLast _).symm⟩
      subst hsy
      have hrd := own_rd2 HSP.out.own
      obtain ⟨k, off, rfl, hkb, hc1, hc2⟩ := hrd.all h0
      obtain ⟨gk, capk, hvk, _, _⟩ := HSP.out.own.form h0
      injection hvk with hAk hnk hck
      injection hAk with hAk
      injection hAk with hgk hok _
      subst hgk hok
      clear hnk hck
      have e1 := hc1 s.length (by simp)
      have e2 := hc2 s.length (by simp)
      rw [fst2_last] at e1
      rw [snd2_last] at e2
      simp only [Nat.zero_add, List.length_append, List.length_cons, List.length_nil] at e1 e2 HSP hl ⊢
      clear hc1 hc2 hrd x0 x1 xf0 xf1 r0 r1 rf0 rf1 h0
      go_wp2_with (at_builtin; go_must (refine wpList_append_sk _ rfl _ _ 23 rfl (w.heap.size + 2) 68 i0 _ 2 16 Try.underlying23 hi hz0 hz1 hz2 rfl (by decide) (some ⟨k, 0, none⟩) d (s.length + 1) (flat2 (s ++ [y])) rfl ?k0 ⟨_, 0, none⟩ 1 1 [.int .i64 y.1, .int .i64 y.2] rfl rfl ?k1 ?k2 ?k3 ?k4 ?k5 ?_))
      case k0 => have := HSP.out.own.alloc (.cells #[.int .i64 y.1, .int .i64 y.2] 68); simpa [OwnZ] using this
      case k2 => exact ⟨rfl, rfl⟩
      case k3 => unfold maxLen; omega
      case k4 => omega
      case k5 => first | omega | (simp; omega)
      intro B2 d2 w4 hown hb hcl
      have HSP2 := Lib.hid (HSP.out.app hgl (ownZ_snoc (s := s ++ [y]) (x := y) (by simpa using hown)) hb)
      clear hown hb hcl e1 e2
      have x0 := HSP2.out.box.cell 0
      have x1 := HSP2.out.box.cell 1
      have xf0 := HSP2.out.box.frozen 0
      have xf1 := HSP2.out.box.frozen 1
      have r0 := HSP2.out.res.cell 0
      have r1 := HSP2.out.res.cell 1
      have rf0 := HSP2.out.res.frozen 0
      have rf1 := HSP2.out.res.frozen 1
      simp at x0 x1 r0 r1
      go_wp2
      have HF := Lib.hid (HSP2.out.fin hgl (by simp; omega) rfl)
      simp only [List.length_append, List.length_cons, List.length_nil, Nat.zero_add] at HF
      exact bodyPost_ret (v := .agg #[.int .i64 o, .slice B2 (s.length + 1 + 1) d2]) (by simp [results, Try.results13, go_sem, x0, x1, r0, r1]) rfl (by obtain ⟨o1, A1, c1, l1, q1, q2, q3, q4, q5, q6⟩ := HF.out; exact ⟨o1, A1, c1, l1, q1, q2, q3, q4, q5, q6.more (by omega)⟩)
    · go_wp2
      have HF := Lib.hid (HSP.out.fin hgl (by omega) rfl)
      exact bodyPost_ret (v := .agg #[.int .i64 o, .slice B l.length d]) (by simp [results, Try.results13, go_sem, x0, x1, r0, r1]) rfl (by obtain ⟨o1, A1, c1, l1, q1, q2, q3, q4, q5, q6⟩ := HF.out; exact ⟨o1, A1, c1, l1, q1, q2, q3, q4, q5, q6.more (by omega)⟩)
  · clear hv
    by_cases h0 : 0 < l.length
    · obtain ⟨⟨x, y⟩, r, hxr⟩ : ∃ p r, l = p :: r := by cases l with
        | nil => simp at h0
        | cons p r => exact ⟨p, r, rfl⟩
      subst hxr
      obtain ⟨gk, capk, hvk, hk1, hk2⟩ := HSP.out.own.form h0
      injection hvk with hAk _ hck
      subst hAk hck
      have HSP2 := Lib.hid (SP.setl (v := 1000) HSP.out hgl)
      have hrd := own_rd2 HSP.out.own
      obtain ⟨k', off', hko, hkb, hc1, hc2⟩ := hrd.all h0
      injection hko with hko
      injection hko with hk' hof _
      subst hk' hof
      have e2 := hc2 0 h0
      have ef := World.ownsRow.frozenAt HSP.out.own 1
      simp only [Nat.zero_mul, Nat.zero_add] at e2
      clear hc1 hc2 hrd
      have hne1 : ¬ gk = w.heap.size := by omega
      have hne2 : ¬ gk = w.heap.size + 1 := by omega
      have hne3 : ¬ w.heap.size = gk := by omega
      have hne4 : ¬ w.heap.size + 1 = gk := by omega
      clear x0 x1 xf0 xf1 r0 r1 rf0 rf1
      have x0 := HSP2.out.box.cell 0
      have x1 := HSP2.out.box.cell 1
      have xf0 := HSP2.out.box.frozen 0
      have xf1 := HSP2.out.box.frozen 1
      have r0 := HSP2.out.res.cell 0
      have r1 := HSP2.out.res.cell 1
      have rf0 := HSP2.out.res.frozen 0
      have rf1 := HSP2.out.res.frozen 1
      simp at x0 x1 r0 r1
      simp only [List.length_cons] at *
      go_wp2
      have HF := Lib.hid (HSP2.out.fin hgl (by simp; omega) rfl)
      simp only [List.length_cons] at HF
      exact bodyPost_ret (v := .agg #[.int .i64 o, .slice (some ⟨gk, 0, none⟩) (r.length + 1) d]) (by simp [results, Try.results13, go_sem, x0, x1, r0, r1]) rfl (by obtain ⟨o1, A1, c1, l1, q1, q2, q3, q4, q5, q6⟩ := HF.out; exact ⟨o1, A1, c1, l1, q1, q2, q3, q4, q5, q6.more (by omega)⟩)
    · go_wp2
      have HF := Lib.hid (HSP.out.fin hgl (by omega) rfl)
      exact bodyPost_ret (v := .agg #[.int .i64 o, .slice B l.length d]) (by simp [results, Try.results13, go_sem, x0, x1, r0, r1]) rfl (by obtain ⟨o1, A1, c1, l1, q1, q2, q3, q4, q5, q6⟩ := HF.out; exact ⟨o1, A1, c1, l1, q1, q2, q3, q4, q5, q6.more (by omega)⟩)
end Go.Proofs.Ytagkdkkpgcolkaa
