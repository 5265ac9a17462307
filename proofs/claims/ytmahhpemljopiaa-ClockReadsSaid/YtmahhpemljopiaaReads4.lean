/-
  Contract of reads: the functions of package clock and of package payrollref4 agree on every zone.
-/
import Derived.Test.YtmahhpemljopiaaRef4c
import Derived.Test.YtmahhpemljopiaaPair
import Derived.Deep.RegionHeld3
import Derived.Deep.DeepCutAuto
namespace Go.Proofs.Ytmahhpemljopiaa
open Go.RowKit
set_option linter.unusedVariables false
set_option linter.unusedSimpArgs false

/-- the zone's variable, and two lists that read alike -/
structure RS (w : World) (o : Int) (A : Option Addr) (c n : Nat) (W : World) : Prop where
  below : Below w.heap.size w W
  box : Blk W w.heap.size 27 #[.int .i64 o, .slice A n c]
structure RL (w : World) (o : Int) (A : Option Addr) (c n : Nat) (B1 B2 : Option Addr) (L : List Int) (W : World) : Prop where
  rs : RS w o A c n W
  r1 : RdI W W.heap.size B1 L
  r2 : RdI W W.heap.size B2 L
section
variable {w W W' : World} {o : Int} {A B1 B2 : Option Addr} {c n : Nat} {L : List Int}
theorem RS.calc_ (h : RS w o A c n W) (hb : Below W.heap.size W W') : RS w o A c n W' := ⟨h.below.trans (hb.mono h.below.size), h.box.below hb h.box.lt⟩
theorem RS.c0 (h : RS w o A c n W) : W.cell? ⟨w.heap.size, 0, none⟩ = some (.int .i64 o) := h.box.cell 0
theorem RS.c1 (h : RS w o A c n W) : W.cell? ⟨w.heap.size, 1, none⟩ = some (.slice A n c) := h.box.cell 1
theorem RL.calc_ (h : RL w o A c n B1 B2 L W) (hb : Below W.heap.size W W') : RL w o A c n B1 B2 L W' := ⟨h.rs.calc_ hb, Rd.more (h.r1.below hb) hb.size, Rd.more (h.r2.below hb) hb.size⟩
theorem RL.drew (h : RL w o A c n B1 B2 L W) : RL w o A c n B1 B2 L W.drew := h.calc_ (below_drewN (Below.refl _ _) 1)
theorem RL.drewN (h : RL w o A c n B1 B2 L W) (m : Nat) : RL w o A c n B1 B2 L (W.drewN m) := h.calc_ (below_drewN (Below.refl _ _) m)
end

set_option maxHeartbeats 3200000 in
set_option maxRecDepth 100000 in
theorem reads_any (A : Option Addr) (c B : Nat) (o : Int) (l : List (Int × Int)) (t loc day : Int) (w : World) (hr : RdP w B A l) (hB : B ≤ w.heap.size) (hl : l.length ≤ 9223372036854775807) :
    Calls Try.prog 22 #[.agg #[.int .i64 o, .slice A l.length c], .int .i64 t, .int .i64 loc, .int .i64 day] w (RetB true w) := by
  have HIOffset : Hid (∀ W, RS w o A c l.length W → Calls Try.prog 24 #[.agg #[.int .i64 o, .slice A l.length c], .int .i64 t] W (RetII (offV o l t) (offE o l t) W)) := Lib.hid (fun W h => offset_any A c B o l W (hr.below (h.below.mono hB)) (Nat.le_trans hB h.below.size) hl t)
  have HROffset : Hid (∀ W, RS w o A c l.length W → Calls Try.prog 28 #[.agg #[.int .i64 o, .slice A l.length c], .int .i64 t] W (RetII (offV o l t) (offE o l t) W)) := Lib.hid (fun W h => roffset_any A c B o l W (hr.below (h.below.mono hB)) (Nat.le_trans hB h.below.size) hl t)
  have HILocal : Hid (∀ W, RS w o A c l.length W → Calls Try.prog 12 #[.agg #[.int .i64 o, .slice A l.length c], .int .i64 t] W (RetII (locV o l t) (offE o l t) W)) := Lib.hid (fun W h => local_any A c B o l W (hr.below (h.below.mono hB)) (Nat.le_trans hB h.below.size) hl t)
  have HRLocal : Hid (∀ W, RS w o A c l.length W → Calls Try.prog 29 #[.agg #[.int .i64 o, .slice A l.length c], .int .i64 t] W (RetII (locV o l t) (offE o l t) W)) := Lib.hid (fun W h => rlocal_any A c B o l W (hr.below (h.below.mono hB)) (Nat.le_trans hB h.below.size) hl t)
  have HIInstants : Hid (∀ W, RS w o A c l.length W → Calls Try.prog 13 #[.agg #[.int .i64 o, .slice A l.length c], .int .i64 loc] W (InstPost o l loc W)) := Lib.hid (fun W h => instants_any A c B o l W (hr.below (h.below.mono hB)) (Nat.le_trans hB h.below.size) hl loc)
  have HRInstants : Hid (∀ W, RS w o A c l.length W → Calls Try.prog 30 #[.agg #[.int .i64 o, .slice A l.length c], .int .i64 loc] W (InstPost o l loc W)) := Lib.hid (fun W h => rinstants_any A c B o l W (hr.below (h.below.mono hB)) (Nat.le_trans hB h.below.size) hl loc)
  have HIValid : Hid (∀ W, RS w o A c l.length W → Calls Try.prog 21 #[.agg #[.int .i64 o, .slice A l.length c]] W (RetI (zerr o l) W)) := Lib.hid (fun W h => cvalid_any A c B o l W (hr.below (h.below.mono hB)) (Nat.le_trans hB h.below.size) hl)
  have HRValid : Hid (∀ W, RS w o A c l.length W → Calls Try.prog 31 #[.agg #[.int .i64 o, .slice A l.length c]] W (RetI (zerr o l) W)) := Lib.hid (fun W h => rvalid_any A c B o l W (hr.below (h.below.mono hB)) (Nat.le_trans hB h.below.size) hl)
  have HIFirst : Hid (∀ W, RS w o A c l.length W → Calls Try.prog 19 #[.agg #[.int .i64 o, .slice A l.length c], .int .i64 loc] W (RetII (firstR o l loc) (zerr o l) W)) := Lib.hid (fun W h => first_any A c B o l W (hr.below (h.below.mono hB)) (Nat.le_trans hB h.below.size) hl loc)
  have HRFirst : Hid (∀ W, RS w o A c l.length W → Calls Try.prog 32 #[.agg #[.int .i64 o, .slice A l.length c], .int .i64 loc] W (RetII (firstR o l loc) (zerr o l) W)) := Lib.hid (fun W h => rFirst_any A c B o l W (hr.below (h.below.mono hB)) (Nat.le_trans hB h.below.size) hl loc)
  have HIBegin : Hid (∀ W, RS w o A c l.length W → Calls Try.prog 17 #[.agg #[.int .i64 o, .slice A l.length c], .int .i64 day] W (RetII (begR o l day) (begE o l day) W)) := Lib.hid (fun W h => begin_any A c B o l W (hr.below (h.below.mono hB)) (Nat.le_trans hB h.below.size) hl day)
  have HRBegin : Hid (∀ W, RS w o A c l.length W → Calls Try.prog 33 #[.agg #[.int .i64 o, .slice A l.length c], .int .i64 day] W (RetII (begR o l day) (begE o l day) W)) := Lib.hid (fun W h => rBegin_any A c B o l W (hr.below (h.below.mono hB)) (Nat.le_trans hB h.below.size) hl day)
  have HIDay : Hid (∀ W, RS w o A c l.length W → Calls Try.prog 20 #[.agg #[.int .i64 o, .slice A l.length c], .int .i64 t] W (RetII (dayR o l t) (offE o l t) W)) := Lib.hid (fun W h => day_any A c B o l W (hr.below (h.below.mono hB)) (Nat.le_trans hB h.below.size) hl t)
  have HRDay : Hid (∀ W, RS w o A c l.length W → Calls Try.prog 34 #[.agg #[.int .i64 o, .slice A l.length c], .int .i64 t] W (RetII (dayR o l t) (offE o l t) W)) := Lib.hid (fun W h => rday_any A c B o l W (hr.below (h.below.mono hB)) (Nat.le_trans hB h.below.size) hl t)
  have HRS : Hid (RS w o A c l.length (w.alloc (.cells #[.int .i64 o, .slice A l.length c] 27))) := Lib.hid ⟨(Below.refl _ _).alloc (Nat.le_refl _) _, Blk.new _ _ _⟩
  have hLl : (instL o l loc).length ≤ l.length + 1 := by
    have h1 := segs_len o l
    have h2 := inst_len (segs o l) loc (segs o l).length
    unfold instL
    split
    · omega
    · simp
  have hLl2 : (instL o l loc).length ≤ 9223372036854775807 := by
    by_cases h : l.length ≤ 64
    · omega
    · have : instL o l loc = [] := by
        unfold instL
        rw [if_neg]
        intro hc
        have := (zval_of hc.1).1
        omega
      rw [this]; simp
  unfold InstPost at HIInstants HRInstants
  generalize offV o l t = ov at *
  generalize offE o l t = oe at *
  generalize locV o l t = lv at *
  generalize instL o l loc = L at *
  generalize zerr o l = ze at *
  generalize firstR o l loc = fr at *
  generalize begR o l day = br at *
  generalize begE o l day = be at *
  generalize dayR o l t = dr at *
  clear hr hLl
  generalize l.length = n at *
  have e1 : (ov == ov) = true := by simp
  have e2 : (oe == oe) = true := by simp
  have e3 : (lv == lv) = true := by simp
  have e4 : (ze == ze) = true := by simp
  have e5 : (fr == fr) = true := by simp
  have e6 : (br == br) = true := by simp
  have e7 : (be == be) = true := by simp
  have e8 : (dr == dr) = true := by simp
  have g1 : (ov != ov) = false := by simp
  have g2 : (oe != oe) = false := by simp
  have g3 : (lv != lv) = false := by simp
  have g4 : (ze != ze) = false := by simp
  have g5 : ((L.length : Int) != (L.length : Int)) = false := by simp
  go_enter Try.func22, Try.ntmps22
  go_wp2_with fail
  refine (HIOffset.out _ HRS.out).mono ?_
  rintro e w1 ⟨rfl, hb⟩
  have HRS := Lib.hid (HRS.out.calc_ hb)
  clear hb
  have z0 := HRS.out.c0
  have z1 := HRS.out.c1
  go_wp2_with fail
  refine (HROffset.out _ HRS.out).mono ?_
  rintro e w2 ⟨rfl, hb⟩
  have HRS := Lib.hid (HRS.out.calc_ hb)
  clear hb z0 z1
  have z0 := HRS.out.c0
  have z1 := HRS.out.c1
  go_wp2_with fail
  refine (HILocal.out _ HRS.out).mono ?_
  rintro e w3 ⟨rfl, hb⟩
  have HRS := Lib.hid (HRS.out.calc_ hb)
  clear hb z0 z1
  have z0 := HRS.out.c0
  have z1 := HRS.out.c1
  go_wp2_with fail
  refine (HRLocal.out _ HRS.out).mono ?_
  rintro e w4 ⟨rfl, hb⟩
  have HRS := Lib.hid (HRS.out.calc_ hb)
  clear hb z0 z1
  have z0 := HRS.out.c0
  have z1 := HRS.out.c1
  go_wp2_with fail
  refine (HIInstants.out _ HRS.out).mono ?_
  rintro e w5 ⟨B1, cb1, rfl, hb, hr1⟩
  have HRS := Lib.hid (HRS.out.calc_ hb)
  have HR1 := Lib.hid hr1
  clear hb hr1 z0 z1
  have z0 := HRS.out.c0
  have z1 := HRS.out.c1
  go_wp2_with fail
  refine (HRInstants.out _ HRS.out).mono ?_
  rintro e w6 ⟨B2, cb2, rfl, hb, hr2⟩
  have HRL : Hid (RL w o A c n B1 B2 L w6) := Lib.hid ⟨HRS.out.calc_ hb, Rd.more (HR1.out.below hb) hb.size, hr2⟩
  clear hb hr2 z0 z1 HR1
  have z0 := HRL.out.rs.c0
  have z1 := HRL.out.rs.c1
  go_upto_region 7 with (fail)
  go_cut [98] (fun s98 wx => s98 = .bool false ∧ RL w o A c n B1 B2 L wx)
  case first =>
    clear HIOffset HROffset HILocal HRLocal HIInstants HRInstants HIFirst HRFirst HIBegin HRBegin HIDay HRDay e1 e2 e3 e4 e5 e6 e7 e8
    go_region_held3 (fun W => W.cell? ⟨w.heap.size, 0, none⟩ = some (.int .i64 o) ∧ W.cell? ⟨w.heap.size, 1, none⟩ = some (.slice A n c)) (first | go_keep | assumption)
      (first | (go_at_call 21; refine (HIValid.out _ (RL.rs (B1 := B1) (B2 := B2) (L := L) ?_)).mono ?_; (repeat (first | exact HRL.out | apply RL.drew)); rintro e w7 ⟨rfl, hb7⟩; have HRL7 := Lib.hid (RL.calc_ (by (repeat (first | exact HRL.out | apply RL.drew))) hb7); have y0 := HRL7.out.rs.c0; have y1 := HRL7.out.rs.c1; clear hb7) | (go_at_call 31; refine (HRValid.out _ (RL.rs (B1 := B1) (B2 := B2) (L := L) ?_)).mono ?_; (repeat (first | exact HRL7.out | apply RL.drew)); rintro e w8 ⟨rfl, hb8⟩; have HRL8 := Lib.hid (RL.calc_ (by (repeat (first | exact HRL7.out | apply RL.drew))) hb8); have x0 := HRL8.out.rs.c0; have x1 := HRL8.out.rs.c1; clear hb8))
    all_goals go_wp2_with fail
    all_goals go_meet
    all_goals exact ⟨rfl, HRL8.out⟩
  case rest =>
    obtain ⟨rfl, hcl⟩ := hcut
    have HRL := Lib.hid hcl
    clear hcl z0 z1 HIOffset HROffset HILocal HRLocal HIInstants HRInstants HIValid HRValid HRS
    go_wp2
    go_loopw [21] (fun i wr => ∃ k : Nat, k ≤ L.length ∧ i = .int .i64 k ∧ RL w o A c n B1 B2 L wr) (fun i _ => L.length - (intOf i).toNat)
    case atStart => exact ⟨0, Nat.zero_le _, rfl, HRL.out⟩
    case round =>
      obtain ⟨k, hk, rfl, hcl⟩ := hrel
      have HRL := Lib.hid hcl
      clear hcl
      by_cases hlt : k < L.length
      · obtain ⟨b, off, rfl, _, y1⟩ := HRL.out.r1.at_ hlt
        obtain ⟨b', off', rfl, _, y2⟩ := HRL.out.r2.at_ hlt
        have y3 : (at1 L k != at1 L k) = false := by simp
        go_wp2
        go_quiet (fail)
        go_wp2
        go_roundw
        case rel => exact ⟨k + 1, by omega, by go_num, HRL.out.drewN _⟩
        case measure => simp [intOf]; omega
      · have HRS := Lib.hid HRL.out.rs
        clear HRL
        have z0 := HRS.out.c0
        have z1 := HRS.out.c1
        go_wp2_with fail
        refine (HIFirst.out _ HRS.out).mono ?_
        rintro e x0 ⟨rfl, hb⟩
        have HRS := Lib.hid (HRS.out.calc_ hb)
        clear hb z0 z1
        have z0 := HRS.out.c0
        have z1 := HRS.out.c1
        go_wp2_with fail
        refine (HRFirst.out _ HRS.out).mono ?_
        rintro e x1 ⟨rfl, hb⟩
        have HRS := Lib.hid (HRS.out.calc_ hb)
        clear hb z0 z1
        have z0 := HRS.out.c0
        have z1 := HRS.out.c1
        go_wp2_with fail
        refine (HIBegin.out _ HRS.out).mono ?_
        rintro e x2 ⟨rfl, hb⟩
        have HRS := Lib.hid (HRS.out.calc_ hb)
        clear hb z0 z1
        have z0 := HRS.out.c0
        have z1 := HRS.out.c1
        go_wp2_with fail
        refine (HRBegin.out _ HRS.out).mono ?_
        rintro e x3 ⟨rfl, hb⟩
        have HRS := Lib.hid (HRS.out.calc_ hb)
        clear hb z0 z1
        have z0 := HRS.out.c0
        have z1 := HRS.out.c1
        go_wp2_with fail
        refine (HIDay.out _ HRS.out).mono ?_
        rintro e x4 ⟨rfl, hb⟩
        have HRS := Lib.hid (HRS.out.calc_ hb)
        clear hb z0 z1
        have z0 := HRS.out.c0
        have z1 := HRS.out.c1
        go_wp2_with fail
        refine (HRDay.out _ HRS.out).mono ?_
        rintro e x5 ⟨rfl, hb⟩
        have HRS := Lib.hid (HRS.out.calc_ hb)
        clear hb z0 z1
        have z0 := HRS.out.c0
        have z1 := HRS.out.c1
        go_wp2
        go_ret
        exact ⟨rfl, HRS.out.below⟩
end Go.Proofs.Ytmahhpemljopiaa
