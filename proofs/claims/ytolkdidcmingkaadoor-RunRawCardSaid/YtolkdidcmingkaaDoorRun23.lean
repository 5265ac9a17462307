/-
  Chapter 40: the walk of the law RunRaw.
-/
import Derived.Test.YtolkdidcmingkaaDoorRun21
import Derived.Test.YtolkdidcmingkaaDoorRun22
namespace Go.Proofs.YtolkdidcmingkaaDoor
open Go.RowKit
set_option linter.unusedVariables false
set_option linter.unusedSimpArgs false

theorem RG.two (w : World) (o o2 : Obj) : RG w ((w.alloc o).alloc o2) := ((Below.refl _ _).alloc (Nat.le_refl _) _).alloc (by simp) _
theorem RG.alloc {W0 W : World} (h : RG W0 W) (o : Obj) : RG W0 (W.alloc o) := h.calc_ ((Below.refl _ _).alloc (Nat.le_refl _) o)
/-- the two parameters' variables -/
structure R2 (w : World) (r q : Array Value) (W : World) : Prop where
  below : RG w W
  b0 : Blk W w.heap.size 27 r
  b1 : Blk W (w.heap.size + 1) 32 q
theorem R2.start (w : World) (r q : Array Value) : R2 w r q ((w.alloc (.cells r 27)).alloc (.cells q 32)) :=
  ⟨RG.two w _ _, (Blk.new _ _ _).alloc _, Blk.new' (by simp)⟩
theorem R2.calc_ {w W W' : World} {r q : Array Value} (h : R2 w r q W) (hb : Below W.heap.size W W') : R2 w r q W' := ⟨h.below.calc_ hb, h.b0.below hb h.b0.lt, h.b1.below hb h.b1.lt⟩
theorem R2.alloc {w W : World} {r q : Array Value} (h : R2 w r q W) (o : Obj) : R2 w r q (W.alloc o) := h.calc_ ((Below.refl _ _).alloc (Nat.le_refl _) o)
theorem rep_uniq {L : List CV} {r r' : RP} {n n' : Nat} {er er' : Int} (h : RepIs L r n er) (h' : RepIs L r' n' er') : r' = r ∧ n' = n ∧ er' = er := by
  obtain ⟨h1, h2, h3, h4⟩ := h
  rcases Nat.lt_trichotomy n n' with hlt | heq | hlt
  · have e := h'.2.1 n hlt
    rcases h4 with ⟨e1, e2⟩ | ⟨e1, e2, e3⟩
    · have := h'.1; omega
    · rw [e] at e2; omega
  · subst heq
    refine ⟨h'.2.2.1.trans h3.symm, rfl, ?_⟩
    rcases h4 with ⟨e1, e2⟩ | ⟨e1, e2, e3⟩ <;> rcases h'.2.2.2 with ⟨g1, g2⟩ | ⟨g1, g2, g3⟩
    · omega
    · omega
    · omega
    · rw [e2, g2]
  · have e := h2 n' hlt
    rcases h'.2.2.2 with ⟨e1, e2⟩ | ⟨e1, e2, e3⟩
    · omega
    · rw [e] at e2; omega

set_option maxHeartbeats 12800000 in
set_option maxRecDepth 100000 in
theorem runRaw_walk (s : Int) (A : Option Addr) (c : Nat) (E : List Int) (c0 c1 c2 : Int) (k : Int) (Q : Option Addr) (q : Nat) (F : List Int) (d0 d1 d2 : Int) (Ad : Option Addr) (cp : Nat) (L : List CV) (w : World) (hT : Tab w)
    (hr : RdI w w.heap.size A E) (hl : E.length ≤ 9223372036854775807) (hq : RdI w w.heap.size Q F) (hlq : F.length ≤ 9223372036854775807) (hc : Rd w w.heap.size 5 Ad L.length (fun i j => (cvV (cAt L i)).getD j (.int .i64 0))) (hcm : ∀ x ∈ L, RdI w w.heap.size x.A x.F ∧ x.F.length ≤ 9223372036854775807) (hL : L.length ≤ 9223372036854775807) :
    Calls Tryd.prog 7 #[.agg #[.int .i64 s, .slice A E.length c, .int .i64 c0, .int .i64 c1, .int .i64 c2], .agg #[.int .i64 k, .slice Q F.length q, .int .i64 d0, .int .i64 d1, .int .i64 d2], .slice Ad L.length cp] w (RetB true w) := by
  have HAW : Hid (∀ W, RG w W → Calls Tryd.prog 12 #[] W (RetB true W)) := Lib.hid (fun W h => awake_any W (hT.calc_ h))
  have HR2 := Lib.hid (R2.start w #[.int .i64 s, .slice A E.length c, .int .i64 c0, .int .i64 c1, .int .i64 c2] #[.int .i64 k, .slice Q F.length q, .int .i64 d0, .int .i64 d1, .int .i64 d2])
  have HFL : Hid (∀ j, j < L.length → (cAt L j).F.length ≤ 9223372036854775807) := Lib.hid (fun j hj => (hcm _ (cAt_mem L j hj)).2)
  have HCELL : Hid (∀ W, RG w W → ∀ j, j < L.length → ∃ b off, Ad = some ⟨b, off, none⟩ ∧ W.cell? ⟨b, off + j * 5 + 1, none⟩ = some (.slice (cAt L j).A (cAt L j).F.length (cAt L j).n)) := Lib.hid (fun W h j hj => by
    obtain ⟨b, off, e, hb, hcl⟩ := Rd.below hc h (by omega)
    exact ⟨b, off, e, hcl j 1 hj (by omega)⟩)
  have HCMD : Hid ((∀ j, j < L.length → (cAt L j).F.length ≤ 40) → ∀ W, RG w W → RdC W W.heap.size Ad L) := Lib.hid (fun h40 W h => by
    have hm : ∀ x ∈ L, x.F.length ≤ 40 := fun x hx => by
      obtain ⟨j, hj, rfl⟩ := List.mem_iff_getElem.1 hx
      have := h40 j hj
      simpa [cAt, List.getD_eq_getElem?_getD, List.getElem?_eq_getElem hj] using this
    exact ⟨Rd.more (Rd.below hc h) h.size, fun x hx => ⟨Rd.more ((hcm x hx).1.below h) h.size, by have := hm x hx; omega⟩⟩)
  have HT : Hid (∀ W, RG w W → Tab W) := Lib.hid (fun W h => hT.calc_ h)
  have HRE : Hid (∀ W, RG w W → RdI W W.heap.size A E) := Lib.hid (fun W h => Rd.more (hr.below h) h.size)
  have HRF : Hid (∀ W, RG w W → RdI W W.heap.size Q F) := Lib.hid (fun W h => Rd.more (hq.below h) h.size)
  clear hT hr hq hc hcm
  rcases bool_cases ((40 : Int) < (E.length : Int)) with t1 | t1
  · go_enter Tryd.func7, Tryd.ntmps7
    go_wp2_with fail
    refine (HAW.out _ (RG.two w _ _)).mono ?_
    rintro e w9 ⟨rfl, hb9⟩
    have HGE := Lib.hid (RG.calc_ (RG.two w _ _) hb9)
    clear hb9
    go_wp2
    go_ret
    exact ⟨rfl, HGE.out⟩
  rcases bool_cases ((40 : Int) < (F.length : Int)) with t2 | t2
  · go_enter Tryd.func7, Tryd.ntmps7
    go_wp2_with fail
    refine (HAW.out _ (RG.two w _ _)).mono ?_
    rintro e w9 ⟨rfl, hb9⟩
    have HGE := Lib.hid (RG.calc_ (RG.two w _ _) hb9)
    clear hb9
    go_wp2
    go_ret
    exact ⟨rfl, HGE.out⟩
  rcases bool_cases ((20 : Int) < (L.length : Int)) with t3 | t3
  · go_enter Tryd.func7, Tryd.ntmps7
    go_wp2_with fail
    refine (HAW.out _ (RG.two w _ _)).mono ?_
    rintro e w9 ⟨rfl, hb9⟩
    have HGE := Lib.hid (RG.calc_ (RG.two w _ _) hb9)
    clear hb9
    go_wp2
    go_ret
    exact ⟨rfl, HGE.out⟩
  have hE40 : E.length ≤ 40 := by simp at t1; omega
  have hF40 : F.length ≤ 40 := by simp at t2; omega
  have hL20 : L.length ≤ 20 := by simp at t3; omega
  go_enter Tryd.func7, Tryd.ntmps7
  go_wp2
  clear t1 t2 t3
  go_loopw [7] (fun i wr => ∃ j : Nat, j ≤ L.length ∧ i = .int .i64 j ∧ (∀ i, i < j → (cAt L i).F.length ≤ 40) ∧ R2 w #[.int .i64 s, .slice A E.length c, .int .i64 c0, .int .i64 c1, .int .i64 c2] #[.int .i64 k, .slice Q F.length q, .int .i64 d0, .int .i64 d1, .int .i64 d2] wr) (fun i _ => L.length - (intOf i).toNat)
  case atStart => exact ⟨0, Nat.zero_le _, rfl, (fun i hi => by omega), HR2.out⟩
  case round =>
    obtain ⟨j, hj, rfl, h40, hr2⟩ := hrel
    have HR2 := Lib.hid hr2
    have H40 := Lib.hid h40
    clear hr2 h40
    by_cases hlt : j < L.length
    · obtain ⟨b, off, rfl, e1⟩ := HCELL.out _ HR2.out.below j hlt
      have hfl := HFL.out j hlt
      rcases bool_cases ((40 : Int) < ((cAt L j).F.length : Int)) with t4 | t4
      · go_wp2_with fail
        refine (HAW.out _ HR2.out.below).mono ?_
        rintro e w9 ⟨rfl, hb9⟩
        have HGE := Lib.hid (RG.calc_ HR2.out.below hb9)
        clear hb9
        go_wp2
        go_ret
        exact ⟨rfl, HGE.out⟩
      · have HN : Hid (∀ i, i < j + 1 → (cAt L i).F.length ≤ 40) := Lib.hid (fun i hi => by
          by_cases e : i = j
          · subst e; simp at t4; omega
          · exact H40.out i (by omega))
        go_wp2
        go_roundw
        case rel => exact ⟨j + 1, by omega, by go_num, HN.out, HR2.out⟩
        case measure => simp [intOf]; omega
    · obtain rfl : j = L.length := by omega
      have HC := Lib.hid (HCMD.out H40.out)
      clear HCMD H40 HCELL HFL hlt hj
      have HST : Hid (∀ W, RG w W → Calls Tryd.prog 10 #[.agg #[.int .i64 s, .slice A E.length c, .int .i64 c0, .int .i64 c1, .int .i64 c2], .agg #[.int .i64 k, .slice Q F.length q, .int .i64 d0, .int .i64 d1, .int .i64 d2]] W (StepPost s E (c0, c1, c2) k F (d0, d1, d2) W)) := Lib.hid (fun W h => step_any s A c E c0 c1 c2 k Q q F d0 d1 d2 W (HT.out W h) (HRE.out W h) (by omega) (HRF.out W h) (by omega))
      have HRST : Hid (∀ W, RG w W → Calls Tryd.prog 17 #[.agg #[.int .i64 s, .slice A E.length c, .int .i64 c0, .int .i64 c1, .int .i64 c2], .agg #[.int .i64 k, .slice Q F.length q, .int .i64 d0, .int .i64 d1, .int .i64 d2]] W (StepPost s E (c0, c1, c2) k F (d0, d1, d2) W)) := Lib.hid (fun W h => rstep_any s A c E c0 c1 c2 k Q q F d0 d1 d2 W (HRE.out W h) (by omega) (HRF.out W h) (by omega))
      have HRP : Hid (∀ W, RG w W → Calls Tryd.prog 15 #[.slice Ad L.length cp] W (RepPost L W)) := Lib.hid (fun W h => replay_any Ad cp L W (HT.out W h) (HC.out W h) (by omega))
      have HRRP : Hid (∀ W, RG w W → Calls Tryd.prog 21 #[.slice Ad L.length cp] W (RepPost L W)) := Lib.hid (fun W h => rreplay_any Ad cp L W (HT.out W h) (HC.out W h) (by omega))
      have hl1 : (stL s E (c0, c1, c2) k F (d0, d1, d2)).length ≤ 100000 := stL_len ⟨s, E, (c0, c1, c2)⟩ ⟨k, Q, q, F, (d0, d1, d2)⟩ (by show E.length ≤ 100000; omega) (by show F.length ≤ 100000; omega)
      unfold StepPost SPost at HST HRST
      generalize stS s E (c0, c1, c2) k F (d0, d1, d2) = s1 at *
      generalize stL s E (c0, c1, c2) k F (d0, d1, d2) = E1 at *
      generalize stC s E (c0, c1, c2) k F (d0, d1, d2) = k1 at *
      generalize stE s E (c0, c1, c2) k F (d0, d1, d2) = er1 at *

      have x0 := HR2.out.b0.cell 0
      have x1 := HR2.out.b0.cell 1
      have x2 := HR2.out.b0.cell 2
      have x3 := HR2.out.b0.cell 3
      have x4 := HR2.out.b0.cell 4
      have y0 := HR2.out.b1.cell 0
      have y1 := HR2.out.b1.cell 1
      have y2 := HR2.out.b1.cell 2
      have y3 := HR2.out.b1.cell 3
      have y4 := HR2.out.b1.cell 4
      simp at x0 x1 x2 x3 x4 y0 y1 y2 y3 y4
      go_wp2_with fail
      refine (HST.out _ HR2.out.below).mono ?_
      rintro e w2 ⟨A2, n2, rfl, hb2, hr2, -⟩
      have HR2 := Lib.hid (HR2.out.calc_ hb2)
      have HRA := Lib.hid hr2
      have hw2 := HR2.out.b1.lt
      have hw2' := HR2.out.b0.lt
      clear hb2 hr2 x0 x1 x2 x3 x4 y0 y1 y2 y3 y4
      have x0 := HR2.out.b0.cell 0
      have x1 := HR2.out.b0.cell 1
      have x2 := HR2.out.b0.cell 2
      have x3 := HR2.out.b0.cell 3
      have x4 := HR2.out.b0.cell 4
      have y0 := HR2.out.b1.cell 0
      have y1 := HR2.out.b1.cell 1
      have y2 := HR2.out.b1.cell 2
      have y3 := HR2.out.b1.cell 3
      have y4 := HR2.out.b1.cell 4
      simp at x0 x1 x2 x3 x4 y0 y1 y2 y3 y4
      go_wp2_with fail
      refine (HRST.out _ (HR2.out.alloc _).below).mono ?_
      rintro e w3 ⟨A3, n3, rfl, hb3, hr3, -⟩
      have HR2 := Lib.hid ((HR2.out.alloc _).calc_ hb3)
      have HBA : Hid (Blk w3 w2.heap.size 27 #[.int .i64 s1, .slice A2 E1.length n2, .int .i64 k1.1, .int .i64 k1.2.1, .int .i64 k1.2.2]) := Lib.hid ((Blk.new w2 _ _).below hb3 (by simp))
      have HRA : Hid (RdI w3 w3.heap.size A2 E1) := Lib.hid (prd_calc (prd_calc HRA.out ((Below.refl _ _).alloc (Nat.le_refl _) _)) hb3)
      have HRB := Lib.hid hr3
      clear hb3 hr3 x0 x1 x2 x3 x4 y0 y1 y2 y3 y4 hw2 hw2'
      go_wp2_with fail
      refine (HRP.out _ (HR2.out.alloc _).below).mono ?_
      rintro e w4 ⟨p, np, ep, A4, n4, hI, rfl, hb4, hr4, hlp⟩
      have HI := Lib.hid hI
      have HR2 := Lib.hid ((HR2.out.alloc _).calc_ hb4)
      have HBA := Lib.hid ((HBA.out.alloc _).below hb4 (by have := HBA.out.lt; simp; omega))
      have HBB : Hid (Blk w4 w3.heap.size 27 #[.int .i64 s1, .slice A3 E1.length n3, .int .i64 k1.1, .int .i64 k1.2.1, .int .i64 k1.2.2]) := Lib.hid ((Blk.new w3 _ _).below hb4 (by simp))
      have HRA : Hid (RdI w4 w4.heap.size A2 E1) := Lib.hid (prd_calc (prd_calc HRA.out ((Below.refl _ _).alloc (Nat.le_refl _) _)) hb4)
      have HRB : Hid (RdI w4 w4.heap.size A3 E1) := Lib.hid (prd_calc (prd_calc HRB.out ((Below.refl _ _).alloc (Nat.le_refl _) _)) hb4)
      have HRP' := Lib.hid hr4
      clear hI hb4 hr4
      go_wp2_with fail
      refine (HRRP.out _ (HR2.out.alloc _).below).mono ?_
      rintro e w5 ⟨p', np', ep', A5, n5, hI, rfl, hb5, hr5, hlp'⟩
      obtain ⟨rfl, rfl, rfl⟩ := rep_uniq HI.out hI
      have hnp : np' ≤ 20 := by have := hI.1; omega
      have HR2 := Lib.hid ((HR2.out.alloc _).calc_ hb5)
      have HBA := Lib.hid ((HBA.out.alloc _).below hb5 (by have := HBA.out.lt; simp; omega))
      have HBB := Lib.hid ((HBB.out.alloc _).below hb5 (by have := HBB.out.lt; simp; omega))
      have HBP : Hid (Blk w5 w4.heap.size 27 #[.int .i64 p'.s, .slice A4 p'.E.length n4, .int .i64 p'.c.1, .int .i64 p'.c.2.1, .int .i64 p'.c.2.2]) := Lib.hid ((Blk.new w4 _ _).below hb5 (by simp))
      have HRA : Hid (RdI w5 w5.heap.size A2 E1) := Lib.hid (prd_calc (prd_calc HRA.out ((Below.refl _ _).alloc (Nat.le_refl _) _)) hb5)
      have HRB : Hid (RdI w5 w5.heap.size A3 E1) := Lib.hid (prd_calc (prd_calc HRB.out ((Below.refl _ _).alloc (Nat.le_refl _) _)) hb5)
      have HRP' : Hid (RdI w5 w5.heap.size A4 _) := Lib.hid (prd_calc (prd_calc HRP'.out ((Below.refl _ _).alloc (Nat.le_refl _) _)) hb5)
      have HRQ' := Lib.hid hr5
      clear hI hb5 hr5 HI HST HRST HRP HRRP HC HRF
      go_upto_region 12 with (fail)
      obtain ⟨wz, hwz⟩ : ∃ z, z = w5.alloc (.cells #[.int .i64 p'.s, .slice A5 p'.E.length n5, .int .i64 p'.c.1, .int .i64 p'.c.2.1, .int .i64 p'.c.2.2] 27) := ⟨_, rfl⟩
      rw [← hwz]
      have hbz : Below w5.heap.size w5 wz := by rw [hwz]; exact (Below.refl _ _).alloc (Nat.le_refl _) _
      have HBQ : Hid (Blk wz w5.heap.size 27 #[.int .i64 p'.s, .slice A5 p'.E.length n5, .int .i64 p'.c.1, .int .i64 p'.c.2.1, .int .i64 p'.c.2.2]) := Lib.hid (by rw [hwz]; exact Blk.new _ _ _)
      have HR2 := Lib.hid (HR2.out.calc_ hbz)
      have HBX := Lib.hid HR2.out.b0
      have HBA := Lib.hid (HBA.out.below hbz HBA.out.lt)
      have HBB := Lib.hid (HBB.out.below hbz HBB.out.lt)
      have HBP := Lib.hid (HBP.out.below hbz HBP.out.lt)
      have HRA := Lib.hid (prd_calc HRA.out hbz)
      have HRB := Lib.hid (prd_calc HRB.out hbz)
      have HRP' := Lib.hid (prd_calc HRP'.out hbz)
      have HRQ' := Lib.hid (prd_calc HRQ'.out hbz)
      clear hbz hwz
      have HGW : Hid (∀ W, RG wz W → RG w W) := Lib.hid (fun W h => RG.calc_ HR2.out.below h)
      have HVAL : Hid (∀ W, RG wz W → Calls Tryd.prog 11 #[.agg #[.int .i64 s, .slice A E.length c, .int .i64 c0, .int .i64 c1, .int .i64 c2]] W (RetB (validB s E (c0, c1, c2)) W)) := Lib.hid (fun W h => rvalid_any s A c W.heap.size E c0 c1 c2 W (HRE.out W (HGW.out W h)) (Nat.le_refl _) (by omega))
      have HRVAL : Hid (∀ W, RG wz W → Calls Tryd.prog 22 #[.agg #[.int .i64 s, .slice A E.length c, .int .i64 c0, .int .i64 c1, .int .i64 c2]] W (RetB (validB s E (c0, c1, c2)) W)) := Lib.hid (fun W h => refValid_any s A c W.heap.size E c0 c1 c2 W (HRE.out W (HGW.out W h)) (Nat.le_refl _) (by omega))
      have HPERM : Hid (∀ W, RG wz W → Calls Tryd.prog 19 #[.agg #[.int .i64 s, .slice A E.length c, .int .i64 c0, .int .i64 c1, .int .i64 c2]] W (NewL (permL s E (c0, c1, c2)) W)) := Lib.hid (fun W h => permitted_any s A c E c0 c1 c2 W (HT.out W (HGW.out W h)) (HRE.out W (HGW.out W h)) (by omega))
      have HRPERM : Hid (∀ W, RG wz W → Calls Tryd.prog 20 #[.agg #[.int .i64 s, .slice A E.length c, .int .i64 c0, .int .i64 c1, .int .i64 c2]] W (NewL (permL s E (c0, c1, c2)) W)) := Lib.hid (fun W h => rpermitted_any s A c E c0 c1 c2 W (HRE.out W (HGW.out W h)) (by omega))
      have hK : (permL s E (c0, c1, c2)).length ≤ 10 := by unfold permL; split; exact pmTo_len _ _; simp
      generalize permL s E (c0, c1, c2) = K at *
      generalize validB s E (c0, c1, c2) = vb at *
      have hvv : (vb == vb) = true := by simp
      have hee : (er1 == er1) = true := by simp
      have hnn : ((np' : Int) == (np' : Int)) = true := by simp
      have hep : (ep' == ep') = true := by simp
      have HINTS : Hid (∀ W Ap Aq np nq, RdI W W.heap.size Ap K → RdI W W.heap.size Aq K → Calls Tryd.prog 18 #[.slice Ap K.length np, .slice Aq K.length nq] W (RetB true W)) := Lib.hid (fun W Ap Aq np nq h1 h2 => ints_eq K Ap Aq np nq W h1 h2 (by omega))
      have HSAME : Hid (∀ W, RG wz W → Calls Tryd.prog 16 #[.agg #[.int .i64 s1, .slice A2 E1.length n2, .int .i64 k1.1, .int .i64 k1.2.1, .int .i64 k1.2.2], .agg #[.int .i64 s1, .slice A3 E1.length n3, .int .i64 k1.1, .int .i64 k1.2.1, .int .i64 k1.2.2]] W (RetB true W)) := Lib.hid (fun W h => same_eq s1 k1.1 k1.2.1 k1.2.2 E1 A2 A3 n2 n3 W (prd_calc HRA.out h) (prd_calc HRB.out h) (by omega))
      have HSAMP : Hid (∀ W, RG wz W → Calls Tryd.prog 16 #[.agg #[.int .i64 p'.s, .slice A4 p'.E.length n4, .int .i64 p'.c.1, .int .i64 p'.c.2.1, .int .i64 p'.c.2.2], .agg #[.int .i64 p'.s, .slice A5 p'.E.length n5, .int .i64 p'.c.1, .int .i64 p'.c.2.1, .int .i64 p'.c.2.2]] W (RetB true W)) := Lib.hid (fun W h => same_eq p'.s p'.c.1 p'.c.2.1 p'.c.2.2 p'.E A4 A5 n4 n5 W (prd_calc HRP'.out h) (prd_calc HRQ'.out h) (by omega))
      have HAWZ : Hid (∀ W, RG wz W → Calls Tryd.prog 12 #[] W (RetB true W)) := Lib.hid (fun W h => HAW.out W (HGW.out W h))
      have HG := Lib.hid (RG.refl wz)

      have x0' := HBX.out.cell 0
      have x1' := HBX.out.cell 1
      have x2' := HBX.out.cell 2
      have x3' := HBX.out.cell 3
      have x4' := HBX.out.cell 4
      have a0' := HBA.out.cell 0
      have a1' := HBA.out.cell 1
      have a2' := HBA.out.cell 2
      have a3' := HBA.out.cell 3
      have a4' := HBA.out.cell 4
      have b0' := HBB.out.cell 0
      have b1' := HBB.out.cell 1
      have b2' := HBB.out.cell 2
      have b3' := HBB.out.cell 3
      have b4' := HBB.out.cell 4
      have p0' := HBP.out.cell 0
      have p1' := HBP.out.cell 1
      have p2' := HBP.out.cell 2
      have p3' := HBP.out.cell 3
      have p4' := HBP.out.cell 4
      have q0' := HBQ.out.cell 0
      have q1' := HBQ.out.cell 1
      have q2' := HBQ.out.cell 2
      have q3' := HBQ.out.cell 3
      have q4' := HBQ.out.cell 4
      simp at x0' x1' x2' x3' x4' a0' a1' a2' a3' a4' b0' b1' b2' b3' b4' p0' p1' p2' p3' p4' q0' q1' q2' q3' q4'
      go_region_held3 (fun W => W.cell? ⟨w.heap.size, 0, none⟩ = some (.int .i64 s) ∧ W.cell? ⟨w.heap.size, 1, none⟩ = some (.slice A E.length c) ∧ W.cell? ⟨w.heap.size, 2, none⟩ = some (.int .i64 c0) ∧ W.cell? ⟨w.heap.size, 3, none⟩ = some (.int .i64 c1) ∧ W.cell? ⟨w.heap.size, 4, none⟩ = some (.int .i64 c2) ∧ W.cell? ⟨w2.heap.size, 0, none⟩ = some (.int .i64 s1) ∧ W.cell? ⟨w2.heap.size, 1, none⟩ = some (.slice A2 E1.length n2) ∧ W.cell? ⟨w2.heap.size, 2, none⟩ = some (.int .i64 k1.1) ∧ W.cell? ⟨w2.heap.size, 3, none⟩ = some (.int .i64 k1.2.1) ∧ W.cell? ⟨w2.heap.size, 4, none⟩ = some (.int .i64 k1.2.2) ∧ W.cell? ⟨w3.heap.size, 0, none⟩ = some (.int .i64 s1) ∧ W.cell? ⟨w3.heap.size, 1, none⟩ = some (.slice A3 E1.length n3) ∧ W.cell? ⟨w3.heap.size, 2, none⟩ = some (.int .i64 k1.1) ∧ W.cell? ⟨w3.heap.size, 3, none⟩ = some (.int .i64 k1.2.1) ∧ W.cell? ⟨w3.heap.size, 4, none⟩ = some (.int .i64 k1.2.2) ∧ W.cell? ⟨w4.heap.size, 0, none⟩ = some (.int .i64 p'.s) ∧ W.cell? ⟨w4.heap.size, 1, none⟩ = some (.slice A4 p'.E.length n4) ∧ W.cell? ⟨w4.heap.size, 2, none⟩ = some (.int .i64 p'.c.1) ∧ W.cell? ⟨w4.heap.size, 3, none⟩ = some (.int .i64 p'.c.2.1) ∧ W.cell? ⟨w4.heap.size, 4, none⟩ = some (.int .i64 p'.c.2.2) ∧ W.cell? ⟨w5.heap.size, 0, none⟩ = some (.int .i64 p'.s) ∧ W.cell? ⟨w5.heap.size, 1, none⟩ = some (.slice A5 p'.E.length n5) ∧ W.cell? ⟨w5.heap.size, 2, none⟩ = some (.int .i64 p'.c.1) ∧ W.cell? ⟨w5.heap.size, 3, none⟩ = some (.int .i64 p'.c.2.1) ∧ W.cell? ⟨w5.heap.size, 4, none⟩ = some (.int .i64 p'.c.2.2)) (first | exact ⟨x0', x1', x2', x3', x4', a0', a1', a2', a3', a4', b0', b1', b2', b3', b4', p0', p1', p2', p3', p4', q0', q1', q2', q3', q4'⟩ | go_keep)
        (first | (go_at_call 11; refine (HVAL.out _ ?_).mono ?_; (repeat (first | exact HG.out | apply RG.drew)); rintro e w6 ⟨rfl, hb6⟩; (have hg6 : RG wz w6 := (by refine RG.calc_ ?_ hb6; (repeat (first | exact HG.out | apply RG.drew)))); have HG := Lib.hid hg6; clear x0' x1' x2' x3' x4' a0' a1' a2' a3' a4' b0' b1' b2' b3' b4' p0' p1' p2' p3' p4' q0' q1' q2' q3' q4'; have ux := hg6.blk HBX.out; have ua := hg6.blk HBA.out; have ub := hg6.blk HBB.out; have up := hg6.blk HBP.out; have uq := hg6.blk HBQ.out; have x0' := ux.cell 0; have x1' := ux.cell 1; have x2' := ux.cell 2; have x3' := ux.cell 3; have x4' := ux.cell 4; have a0' := ua.cell 0; have a1' := ua.cell 1; have a2' := ua.cell 2; have a3' := ua.cell 3; have a4' := ua.cell 4; have b0' := ub.cell 0; have b1' := ub.cell 1; have b2' := ub.cell 2; have b3' := ub.cell 3; have b4' := ub.cell 4; have p0' := up.cell 0; have p1' := up.cell 1; have p2' := up.cell 2; have p3' := up.cell 3; have p4' := up.cell 4; have q0' := uq.cell 0; have q1' := uq.cell 1; have q2' := uq.cell 2; have q3' := uq.cell 3; have q4' := uq.cell 4; (simp at x0' x1' x2' x3' x4' a0' a1' a2' a3' a4' b0' b1' b2' b3' b4' p0' p1' p2' p3' p4' q0' q1' q2' q3' q4'); clear hb6 hg6 ux ua ub up uq) | (go_at_call 22; refine (HRVAL.out _ ?_).mono ?_; (repeat (first | exact HG.out | apply RG.drew)); rintro e w6 ⟨rfl, hb6⟩; (have hg6 : RG wz w6 := (by refine RG.calc_ ?_ hb6; (repeat (first | exact HG.out | apply RG.drew)))); have HG := Lib.hid hg6; clear x0' x1' x2' x3' x4' a0' a1' a2' a3' a4' b0' b1' b2' b3' b4' p0' p1' p2' p3' p4' q0' q1' q2' q3' q4'; have ux := hg6.blk HBX.out; have ua := hg6.blk HBA.out; have ub := hg6.blk HBB.out; have up := hg6.blk HBP.out; have uq := hg6.blk HBQ.out; have x0' := ux.cell 0; have x1' := ux.cell 1; have x2' := ux.cell 2; have x3' := ux.cell 3; have x4' := ux.cell 4; have a0' := ua.cell 0; have a1' := ua.cell 1; have a2' := ua.cell 2; have a3' := ua.cell 3; have a4' := ua.cell 4; have b0' := ub.cell 0; have b1' := ub.cell 1; have b2' := ub.cell 2; have b3' := ub.cell 3; have b4' := ub.cell 4; have p0' := up.cell 0; have p1' := up.cell 1; have p2' := up.cell 2; have p3' := up.cell 3; have p4' := up.cell 4; have q0' := uq.cell 0; have q1' := uq.cell 1; have q2' := uq.cell 2; have q3' := uq.cell 3; have q4' := uq.cell 4; (simp at x0' x1' x2' x3' x4' a0' a1' a2' a3' a4' b0' b1' b2' b3' b4' p0' p1' p2' p3' p4' q0' q1' q2' q3' q4'); clear hb6 hg6 ux ua ub up uq) | (go_at_call 19; refine (HPERM.out _ ?_).mono ?_; (repeat (first | exact HG.out | apply RG.drew)); rintro e w6 ⟨Ap, np, rfl, hb6, hr6⟩; (have hg6 : RG wz w6 := (by refine RG.calc_ ?_ hb6; (repeat (first | exact HG.out | apply RG.drew)))); have HG := Lib.hid hg6; clear x0' x1' x2' x3' x4' a0' a1' a2' a3' a4' b0' b1' b2' b3' b4' p0' p1' p2' p3' p4' q0' q1' q2' q3' q4'; have ux := hg6.blk HBX.out; have ua := hg6.blk HBA.out; have ub := hg6.blk HBB.out; have up := hg6.blk HBP.out; have uq := hg6.blk HBQ.out; have x0' := ux.cell 0; have x1' := ux.cell 1; have x2' := ux.cell 2; have x3' := ux.cell 3; have x4' := ux.cell 4; have a0' := ua.cell 0; have a1' := ua.cell 1; have a2' := ua.cell 2; have a3' := ua.cell 3; have a4' := ua.cell 4; have b0' := ub.cell 0; have b1' := ub.cell 1; have b2' := ub.cell 2; have b3' := ub.cell 3; have b4' := ub.cell 4; have p0' := up.cell 0; have p1' := up.cell 1; have p2' := up.cell 2; have p3' := up.cell 3; have p4' := up.cell 4; have q0' := uq.cell 0; have q1' := uq.cell 1; have q2' := uq.cell 2; have q3' := uq.cell 3; have q4' := uq.cell 4; (simp at x0' x1' x2' x3' x4' a0' a1' a2' a3' a4' b0' b1' b2' b3' b4' p0' p1' p2' p3' p4' q0' q1' q2' q3' q4'); have HPa := Lib.hid hr6; clear hr6; (first | (have hq6 := prd_calc HPb.out hb6; have HPb := Lib.hid hq6; clear hq6) | (have hq6 := prd_calc (prd_drew HPb.out) hb6; have HPb := Lib.hid hq6; clear hq6) | skip); clear hb6 hg6 ux ua ub up uq) | (go_at_call 20; refine (HRPERM.out _ ?_).mono ?_; (repeat (first | exact HG.out | apply RG.drew)); rintro e w6 ⟨Aq, nq, rfl, hb6, hr6⟩; (have hg6 : RG wz w6 := (by refine RG.calc_ ?_ hb6; (repeat (first | exact HG.out | apply RG.drew)))); have HG := Lib.hid hg6; clear x0' x1' x2' x3' x4' a0' a1' a2' a3' a4' b0' b1' b2' b3' b4' p0' p1' p2' p3' p4' q0' q1' q2' q3' q4'; have ux := hg6.blk HBX.out; have ua := hg6.blk HBA.out; have ub := hg6.blk HBB.out; have up := hg6.blk HBP.out; have uq := hg6.blk HBQ.out; have x0' := ux.cell 0; have x1' := ux.cell 1; have x2' := ux.cell 2; have x3' := ux.cell 3; have x4' := ux.cell 4; have a0' := ua.cell 0; have a1' := ua.cell 1; have a2' := ua.cell 2; have a3' := ua.cell 3; have a4' := ua.cell 4; have b0' := ub.cell 0; have b1' := ub.cell 1; have b2' := ub.cell 2; have b3' := ub.cell 3; have b4' := ub.cell 4; have p0' := up.cell 0; have p1' := up.cell 1; have p2' := up.cell 2; have p3' := up.cell 3; have p4' := up.cell 4; have q0' := uq.cell 0; have q1' := uq.cell 1; have q2' := uq.cell 2; have q3' := uq.cell 3; have q4' := uq.cell 4; (simp at x0' x1' x2' x3' x4' a0' a1' a2' a3' a4' b0' b1' b2' b3' b4' p0' p1' p2' p3' p4' q0' q1' q2' q3' q4'); have HPb := Lib.hid hr6; clear hr6; (first | (have hq6 := prd_calc HPa.out hb6; have HPa := Lib.hid hq6; clear hq6) | (have hq6 := prd_calc (prd_drew HPa.out) hb6; have HPa := Lib.hid hq6; clear hq6) | skip); clear hb6 hg6 ux ua ub up uq) | (go_at_call 18; first | (refine (HINTS.out _ _ _ _ _ HPa.out HPb.out).mono ?_; rintro e w6 ⟨rfl, hb6⟩; (have hg6 : RG wz w6 := (by refine RG.calc_ ?_ hb6; (repeat (first | exact HG.out | apply RG.drew)))); have HG := Lib.hid hg6; clear x0' x1' x2' x3' x4' a0' a1' a2' a3' a4' b0' b1' b2' b3' b4' p0' p1' p2' p3' p4' q0' q1' q2' q3' q4'; have ux := hg6.blk HBX.out; have ua := hg6.blk HBA.out; have ub := hg6.blk HBB.out; have up := hg6.blk HBP.out; have uq := hg6.blk HBQ.out; have x0' := ux.cell 0; have x1' := ux.cell 1; have x2' := ux.cell 2; have x3' := ux.cell 3; have x4' := ux.cell 4; have a0' := ua.cell 0; have a1' := ua.cell 1; have a2' := ua.cell 2; have a3' := ua.cell 3; have a4' := ua.cell 4; have b0' := ub.cell 0; have b1' := ub.cell 1; have b2' := ub.cell 2; have b3' := ub.cell 3; have b4' := ub.cell 4; have p0' := up.cell 0; have p1' := up.cell 1; have p2' := up.cell 2; have p3' := up.cell 3; have p4' := up.cell 4; have q0' := uq.cell 0; have q1' := uq.cell 1; have q2' := uq.cell 2; have q3' := uq.cell 3; have q4' := uq.cell 4; (simp at x0' x1' x2' x3' x4' a0' a1' a2' a3' a4' b0' b1' b2' b3' b4' p0' p1' p2' p3' p4' q0' q1' q2' q3' q4'); clear hb6 hg6 ux ua ub up uq) | (refine (HINTS.out _ _ _ _ _ (prd_drew HPa.out) (prd_drew HPb.out)).mono ?_; rintro e w6 ⟨rfl, hb6⟩; (have hg6 : RG wz w6 := (by refine RG.calc_ ?_ hb6; (repeat (first | exact HG.out | apply RG.drew)))); have HG := Lib.hid hg6; clear x0' x1' x2' x3' x4' a0' a1' a2' a3' a4' b0' b1' b2' b3' b4' p0' p1' p2' p3' p4' q0' q1' q2' q3' q4'; have ux := hg6.blk HBX.out; have ua := hg6.blk HBA.out; have ub := hg6.blk HBB.out; have up := hg6.blk HBP.out; have uq := hg6.blk HBQ.out; have x0' := ux.cell 0; have x1' := ux.cell 1; have x2' := ux.cell 2; have x3' := ux.cell 3; have x4' := ux.cell 4; have a0' := ua.cell 0; have a1' := ua.cell 1; have a2' := ua.cell 2; have a3' := ua.cell 3; have a4' := ua.cell 4; have b0' := ub.cell 0; have b1' := ub.cell 1; have b2' := ub.cell 2; have b3' := ub.cell 3; have b4' := ub.cell 4; have p0' := up.cell 0; have p1' := up.cell 1; have p2' := up.cell 2; have p3' := up.cell 3; have p4' := up.cell 4; have q0' := uq.cell 0; have q1' := uq.cell 1; have q2' := uq.cell 2; have q3' := uq.cell 3; have q4' := uq.cell 4; (simp at x0' x1' x2' x3' x4' a0' a1' a2' a3' a4' b0' b1' b2' b3' b4' p0' p1' p2' p3' p4' q0' q1' q2' q3' q4'); clear hb6 hg6 ux ua ub up uq)) | (go_at_call 16; (first | (with_reducible refine (HSAME.out _ ?_).mono ?_) | (with_reducible refine (HSAMP.out _ ?_).mono ?_)); (repeat (first | exact HG.out | apply RG.drew)); rintro e w6 ⟨rfl, hb6⟩; (have hg6 : RG wz w6 := (by refine RG.calc_ ?_ hb6; (repeat (first | exact HG.out | apply RG.drew)))); have HG := Lib.hid hg6; clear x0' x1' x2' x3' x4' a0' a1' a2' a3' a4' b0' b1' b2' b3' b4' p0' p1' p2' p3' p4' q0' q1' q2' q3' q4'; have ux := hg6.blk HBX.out; have ua := hg6.blk HBA.out; have ub := hg6.blk HBB.out; have up := hg6.blk HBP.out; have uq := hg6.blk HBQ.out; have x0' := ux.cell 0; have x1' := ux.cell 1; have x2' := ux.cell 2; have x3' := ux.cell 3; have x4' := ux.cell 4; have a0' := ua.cell 0; have a1' := ua.cell 1; have a2' := ua.cell 2; have a3' := ua.cell 3; have a4' := ua.cell 4; have b0' := ub.cell 0; have b1' := ub.cell 1; have b2' := ub.cell 2; have b3' := ub.cell 3; have b4' := ub.cell 4; have p0' := up.cell 0; have p1' := up.cell 1; have p2' := up.cell 2; have p3' := up.cell 3; have p4' := up.cell 4; have q0' := uq.cell 0; have q1' := uq.cell 1; have q2' := uq.cell 2; have q3' := uq.cell 3; have q4' := uq.cell 4; (simp at x0' x1' x2' x3' x4' a0' a1' a2' a3' a4' b0' b1' b2' b3' b4' p0' p1' p2' p3' p4' q0' q1' q2' q3' q4'); clear hb6 hg6 ux ua ub up uq) | (go_at_call 12; refine (HAWZ.out _ ?_).mono ?_; (repeat (first | exact HG.out | apply RG.drew)); rintro e w6 ⟨rfl, hb6⟩; (have hg6 : RG wz w6 := (by refine RG.calc_ ?_ hb6; (repeat (first | exact HG.out | apply RG.drew)))); have HG := Lib.hid hg6; clear x0' x1' x2' x3' x4' a0' a1' a2' a3' a4' b0' b1' b2' b3' b4' p0' p1' p2' p3' p4' q0' q1' q2' q3' q4'; have ux := hg6.blk HBX.out; have ua := hg6.blk HBA.out; have ub := hg6.blk HBB.out; have up := hg6.blk HBP.out; have uq := hg6.blk HBQ.out; have x0' := ux.cell 0; have x1' := ux.cell 1; have x2' := ux.cell 2; have x3' := ux.cell 3; have x4' := ux.cell 4; have a0' := ua.cell 0; have a1' := ua.cell 1; have a2' := ua.cell 2; have a3' := ua.cell 3; have a4' := ua.cell 4; have b0' := ub.cell 0; have b1' := ub.cell 1; have b2' := ub.cell 2; have b3' := ub.cell 3; have b4' := ub.cell 4; have p0' := up.cell 0; have p1' := up.cell 1; have p2' := up.cell 2; have p3' := up.cell 3; have p4' := up.cell 4; have q0' := uq.cell 0; have q1' := uq.cell 1; have q2' := uq.cell 2; have q3' := uq.cell 3; have q4' := uq.cell 4; (simp at x0' x1' x2' x3' x4' a0' a1' a2' a3' a4' b0' b1' b2' b3' b4' p0' p1' p2' p3' p4' q0' q1' q2' q3' q4'); clear hb6 hg6 ux ua ub up uq))
      all_goals go_wp2
      all_goals go_ret
      all_goals exact ⟨rfl, HGW.out _ HG.out⟩
end Go.Proofs.YtolkdidcmingkaaDoor
