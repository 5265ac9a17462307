/-
  Chapter 40: contract of awake: it returns true.
-/
import Derived.Test.YtolkdidcmingkaaDoorRun9
namespace Go.Proofs.YtolkdidcmingkaaDoor
open Go.RowKit
set_option linter.unusedVariables false
set_option linter.unusedSimpArgs false

/-- awake's variables -/
structure AW (w : World) (s : Int) (W : World) : Prop where
  below : Below w.heap.size w W
  bc : Blk W w.heap.size 25 #[.int .i64 2, .int .i64 300, .int .i64 3]
  be : Blk W (w.heap.size + 1) 3 #[.int .i64 1, .int .i64 2]
  bl : Blk W (w.heap.size + 2) 32 (flat5 (LA (some ⟨w.heap.size + 1, 0, none⟩) 2 s)).toArray
  tab : Tab W
theorem AW.calc_ {w W W' : World} {s : Int} (h : AW w s W) (hb : Below W.heap.size W W') : AW w s W' := ⟨h.below.trans (hb.mono h.below.size), h.bc.below hb h.bc.lt, h.be.below hb h.be.lt, h.bl.below hb h.bl.lt, h.tab.calc_ hb⟩
theorem AW.rdc {w W : World} {s : Int} (h : AW w s W) : RdC W W.heap.size (some ⟨w.heap.size + 2, 0, none⟩) (LA (some ⟨w.heap.size + 1, 0, none⟩) 2 s) := by
  refine rdC_blk h.bl h.bl.lt (fun x hx => ?_)
  simp only [LA, List.mem_cons, List.not_mem_nil, or_false] at hx
  rcases hx with rfl | rfl | rfl | rfl
  · refine ⟨fun _ => ⟨w.heap.size + 1, 0, rfl, h.be.lt, fun i j hi hj => ?_⟩, by simp [x1]⟩
    have hi' : i = 0 ∨ i = 1 := by simp [x1] at hi; omega
    have hj0 : j = 0 := by omega
    subst hj0
    rcases hi' with rfl | rfl
    · have := h.be.cell 0; simpa [x1, at1] using this
    · have := h.be.cell 1; simpa [x1, at1] using this
  all_goals exact ⟨Rd.none_, by simp [xk]⟩
theorem AW.start (w : World) (hT : Tab w) : AW w 300 (((w.alloc (.cells #[.int .i64 2, .int .i64 300, .int .i64 3] 25)).alloc (.cells #[.int .i64 1, .int .i64 2] 3)).alloc (.cells #[.int .i64 1, .slice (some ⟨w.heap.size + 1, 0, none⟩) 2 2, .int .i64 0, .int .i64 0, .int .i64 0, .int .i64 2, .slice none 0 0, .int .i64 2, .int .i64 300, .int .i64 3, .int .i64 3, .slice none 0 0, .int .i64 2, .int .i64 300, .int .i64 3, .int .i64 4, .slice none 0 0, .int .i64 2, .int .i64 300, .int .i64 3] 32)) := by
  have hb : Below w.heap.size w (((w.alloc (.cells #[.int .i64 2, .int .i64 300, .int .i64 3] 25)).alloc (.cells #[.int .i64 1, .int .i64 2] 3)).alloc (.cells #[.int .i64 1, .slice (some ⟨w.heap.size + 1, 0, none⟩) 2 2, .int .i64 0, .int .i64 0, .int .i64 0, .int .i64 2, .slice none 0 0, .int .i64 2, .int .i64 300, .int .i64 3, .int .i64 3, .slice none 0 0, .int .i64 2, .int .i64 300, .int .i64 3, .int .i64 4, .slice none 0 0, .int .i64 2, .int .i64 300, .int .i64 3] 32)) := (((Below.refl _ _).alloc (Nat.le_refl _) _).alloc (by simp) _).alloc (by simp; omega) _
  exact ⟨hb, ((Blk.new _ _ _).alloc _).alloc _, (Blk.new' (by simp)).alloc _, Blk.new' (by simp), hT.below hb hT.lt⟩
theorem AW.set {w W : World} (h : AW w 300 W) : AW w 299 (W.setCell ⟨w.heap.size + 2, 13, none⟩ (.int .i64 299)) := by
  have ho : Only (w.heap.size + 2) W (W.setCell ⟨w.heap.size + 2, 13, none⟩ (.int .i64 299)) := (Only.refl _ W).setCell (p := ⟨w.heap.size + 2, 13, none⟩) (.inl rfl) _
  have h1 := h.bl.lt
  have h2 := h.tab.lt
  refine ⟨below_only h.below ho (by omega), h.bc.grown ho (by intro e; injection e; omega), h.be.grown ho (by intro e; injection e; omega), ?_, ?_⟩
  · have := h.bl.set_ 13 (.int .i64 299)
    exact this
  · have h3 := h.below.size
    have h4 := h.bc.lt
    by_cases e0 : w.heap.size = 0
    · obtain ⟨t, fr, ht⟩ := h.tab
      have hb := h.bc
      unfold Blk at hb
      rw [e0, ht] at hb
      injection hb with hb
      injection hb with hb
      have := congrArg Array.size hb
      simp [tabV] at this
    · exact h.tab.below (ho.below (B := w.heap.size + 1) (by omega) (by omega)) (by omega)

set_option maxHeartbeats 3200000 in
theorem awake_any (w : World) (hT : Tab w) : Calls Tryd.prog 12 #[] w (RetB true w) := by
  have HAW := Lib.hid (AW.start w hT)
  have HRP : Hid (∀ s W, AW w s W → Calls Tryd.prog 15 #[.slice (some ⟨w.heap.size + 2, 0, none⟩) 4 4] W (RepPost (LA (some ⟨w.heap.size + 1, 0, none⟩) 2 s) W)) := Lib.hid (fun s W h => replay_any _ 4 (LA (some ⟨w.heap.size + 1, 0, none⟩) 2 s) W h.tab h.rdc (by simp [LA]))
  clear hT
  go_enter Tryd.func12, Tryd.ntmps12
  go_wp2_with fail
  refine (HRP.out 300 _ HAW.out).mono ?_
  rintro e w1 ⟨r, n, er, A, c, hI, rfl, hb, hr, hlr⟩
  obtain ⟨rfl, rfl, rfl⟩ := rep1 _ _ hI
  have HAW := Lib.hid (HAW.out.calc_ hb)
  clear hI hb hr hlr
  have hl2 := HAW.out.bl.lt
  have hl1 : w.heap.size + 1 < w1.heap.size := by omega
  have hl0 : w.heap.size < w1.heap.size := by omega
  have q := HAW.out.bl.cell 13
  have qf := HAW.out.bl.frozen 13
  simp [LA, flat5, cvV, x1, xk] at q
  have HAW2 := Lib.hid HAW.out.set
  simp only [rpV, List.length_cons, List.length_nil, ca]
  go_wp2_with fail
  refine (HRP.out 299 _ (HAW2.out.calc_ ((Below.refl _ _).alloc (Nat.le_refl _) _))).mono ?_
  rintro e w2 ⟨r, n, er, A2, c2, hI, rfl, hb, hr, hlr⟩
  obtain ⟨rfl, rfl⟩ := rep2 _ _ hI
  have hsz : (w1.setCell ⟨w.heap.size + 2, 13, none⟩ (.int .i64 299)).heap.size = w1.heap.size := by simp [World.setCell]
  have HP := Lib.hid ((Blk.new' (w := w1.setCell ⟨w.heap.size + 2, 13, none⟩ (.int .i64 299)) (g := w1.heap.size) hsz.symm).below hb (by simp))
  have HAW3 := Lib.hid ((HAW2.out.calc_ ((Below.refl _ _).alloc (Nat.le_refl _) _)).calc_ hb)
  clear hI hb hr hlr hsz q qf
  have p0 := HP.out.cell 0
  have p2 := HP.out.cell 2
  have p3 := HP.out.cell 3
  have p4 := HP.out.cell 4
  have c0' := HAW3.out.bc.cell 0
  have c1' := HAW3.out.bc.cell 1
  have c2' := HAW3.out.bc.cell 2
  simp at p0 p2 p3 p4 c0' c1' c2'
  have hp := HP.out.lt
  have hc := HAW3.out.bc.lt
  simp only [rpV]
  go_wp2
  go_ret
  exact ⟨rfl, HAW3.out.below.alloc HAW3.out.below.size _⟩
end Go.Proofs.YtolkdidcmingkaaDoor
