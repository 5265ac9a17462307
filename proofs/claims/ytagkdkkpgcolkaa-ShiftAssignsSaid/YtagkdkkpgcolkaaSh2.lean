/-
  Chapter 10: Planned of both packages.
-/
import Derived.Test.YtagkdkkpgcolkaaSh1
namespace Go.Proofs.Ytagkdkkpgcolkaa
open Go.RowKit
set_option linter.unusedVariables false
set_option linter.unusedSimpArgs false

def plTo (l : List T3) (day : Int) : Nat → Int
  | 0 => 0
  | k + 1 => plTo l day k + if tA l k = day ∧ 1 ≤ tC l k ∧ tC l k ≤ 1440 then tC l k else 0
theorem pl_bd (l : List T3) (day : Int) : ∀ k : Nat, 0 ≤ plTo l day k ∧ plTo l day k ≤ 1440 * k
  | 0 => by simp [plTo]
  | k + 1 => by
    have ih := pl_bd l day k
    rw [plTo]
    split <;> omega
def plN (l : List T3) : Nat := min l.length 1024
def plV (l : List T3) (day : Int) : Int := plTo l day (plN l)

set_option maxHeartbeats 1600000 in
theorem rplanned_any (A : Option Addr) (c : Nat) (l : List T3) (day : Int) (w : World) (hr : RdT w w.heap.size A l) (hl : l.length ≤ 9223372036854775807) :
    Calls Try.prog 17 #[.slice A l.length c, .int .i64 day] w (RetI (plV l day) w) := by
  have HR := Lib.hid hr
  have HV : Hid (plV l day = plTo l day (plN l)) := Lib.hid rfl
  have hn : plN l = min l.length 1024 := rfl
  clear hr
  generalize plN l = n at *
  have hn1 : n ≤ l.length := by omega
  have hn2 : n ≤ 1024 := by omega
  have HN3 : Hid (n = l.length ∨ n = 1024) := Lib.hid (by omega)
  clear hn
  go_enter Try.func17, Try.ntmps17
  go_wp2
  go_loopw [5, 6, 7] (fun v i _ wr => ∃ k : Nat, k ≤ n ∧ i = .int .i64 k ∧ v = .int .i64 (plTo l day k) ∧ Below w.heap.size w wr) (fun _ i _ _ => n - (intOf i).toNat)
  case atStart => exact ⟨0, Nat.zero_le _, rfl, rfl, Below.refl _ _⟩
  case round =>
    obtain ⟨k, hk, rfl, rfl, hb⟩ := hrel
    have HB := Lib.hid hb
    clear hb
    by_cases hlt : k < n
    · have hk1 : k < l.length := by omega
      have hk2 : (k : Int) < 1024 := by omega
      obtain ⟨b, off, rfl, hb, h0, h1, h2⟩ := HR.out.all (by omega)
      have e0 := h0 k (by omega)
      have e1 := h1 k (by omega)
      have e2 := h2 k (by omega)
      clear h0 h1 h2
      have c0 : wr.cell? ⟨b, off + k * 3, none⟩ = some (.int .i64 (tA l k)) := (HB.out.cell (p := ⟨b, off + k * 3, none⟩) hb).trans e0
      have c1 : wr.cell? ⟨b, off + k * 3 + 1, none⟩ = some (.int .i64 (tB l k)) := (HB.out.cell (p := ⟨b, off + k * 3 + 1, none⟩) hb).trans e1
      have c2 : wr.cell? ⟨b, off + k * 3 + 2, none⟩ = some (.int .i64 (tC l k)) := (HB.out.cell (p := ⟨b, off + k * 3 + 2, none⟩) hb).trans e2
      clear e0 e1 e2
      have hpb := pl_bd l day k
      have HP : Hid (plTo l day (k + 1) = plTo l day k + if tA l k = day ∧ 1 ≤ tC l k ∧ tC l k ≤ 1440 then tC l k else 0) := Lib.hid rfl
      have HBW : Hid (∀ o, Below w.heap.size w (wr.alloc o)) := Lib.hid (fun o => HB.out.alloc HB.out.size o)
      generalize plTo l day k = P0 at *
      generalize tA l k = a at *
      generalize tB l k = b' at *
      generalize tC l k = m at *
      rcases (show (a == day) = true ∨ (a == day) = false by cases a == day <;> simp) with t0 | t0
      rotate_left
      · have HN : Hid (plTo l day (k + 1) = P0) := Lib.hid (by rw [HP.out, if_neg (fun h => by simp at t0; exact t0 h.1)]; omega)
        go_wp2
        go_roundw
        case rel => exact ⟨k + 1, by omega, by go_num, by rw [HN.out], HBW.out _⟩
        case measure => simp [intOf]; omega
      rcases bool_cases (1 ≤ m) with t1 | t1
      rotate_left
      · have HN : Hid (plTo l day (k + 1) = P0) := Lib.hid (by rw [HP.out, if_neg (fun h => by simp at t1; omega)]; omega)
        go_wp2
        go_roundw
        case rel => exact ⟨k + 1, by omega, by go_num, by rw [HN.out], HBW.out _⟩
        case measure => simp [intOf]; omega
      rcases bool_cases (m ≤ 1440) with t2 | t2
      rotate_left
      · have HN : Hid (plTo l day (k + 1) = P0) := Lib.hid (by rw [HP.out, if_neg (fun h => by simp at t2; omega)]; omega)
        go_wp2
        go_roundw
        case rel => exact ⟨k + 1, by omega, by go_num, by rw [HN.out], HBW.out _⟩
        case measure => simp [intOf]; omega
      have HN : Hid (plTo l day (k + 1) = P0 + m) := Lib.hid (by rw [HP.out, if_pos (by simp at t0 t1 t2; exact ⟨t0, t1, t2⟩)])
      have hm1 : 1 ≤ m := by simpa using t1
      have hm2 : m ≤ 1440 := by simpa using t2
      go_wp2
      go_roundw
      case rel => exact ⟨k + 1, by omega, by go_num, by rw [HN.out], HBW.out _⟩
      case measure => simp [intOf]; omega
    · obtain rfl : k = n := by omega
      by_cases hk1 : k < l.length
      · have hk2 : decide ((k : Int) < 1024) = false := by have := HN3.out; simp; omega
        have hk3 : ¬ k < 1024 := by have := HN3.out; omega
        go_wp2
        go_ret
        exact ⟨by rw [HV.out]; rfl, HB.out⟩
      · skip
        go_wp2
        go_ret
        exact ⟨by rw [HV.out]; rfl, HB.out⟩

set_option maxHeartbeats 1600000 in
set_option maxRecDepth 100000 in
theorem planned_any (A : Option Addr) (c : Nat) (l : List T3) (day : Int) (w : World) (hr : RdT w w.heap.size A l) (hl : l.length ≤ 9223372036854775807) (hc : l.length ≤ c) (hcm : c ≤ 9223372036854775807) :
    Calls Try.prog 16 #[.slice A l.length c, .int .i64 day] w (RetI (plV l day) w) := by
  have HR := Lib.hid hr
  have HV : Hid (plV l day = plTo l day (plN l)) := Lib.hid rfl
  have hn : plN l = min l.length 1024 := rfl
  clear hr
  generalize plN l = n at *
  have hn1 : n ≤ l.length := by omega
  have hn2 : n ≤ 1024 := by omega
  have HN3 : Hid (n = l.length ∨ n = 1024) := Lib.hid (by omega)
  clear hn
  by_cases hle : l.length ≤ 1024
  · obtain rfl : n = l.length := by have := HN3.out; omega
    have hle' : (l.length : Int) ≤ 1024 := by omega
    go_enter Try.func16, Try.ntmps16
    go_wp2
    go_loopw [5, 7, 14] (fun v _ i wr => ∃ k : Nat, k ≤ l.length ∧ i = .int .i64 k ∧ v = .int .i64 (plTo l day k) ∧ Below w.heap.size w wr) (fun _ _ i _ => l.length - (intOf i).toNat)
    case atStart => exact ⟨0, Nat.zero_le _, rfl, rfl, Below.refl _ _⟩
    case round =>
      obtain ⟨k, hk, rfl, rfl, hb⟩ := hrel
      have HB := Lib.hid hb
      clear hb
      by_cases hlt : k < l.length
      · skip
        obtain ⟨b, off, rfl, hb, h0, h1, h2⟩ := HR.out.all (by omega)
        have e0 := h0 k (by omega)
        have e1 := h1 k (by omega)
        have e2 := h2 k (by omega)
        clear h0 h1 h2
        have c0 : wr.cell? ⟨b, off + k * 3, none⟩ = some (.int .i64 (tA l k)) := (HB.out.cell (p := ⟨b, off + k * 3, none⟩) hb).trans e0
        have c1 : wr.cell? ⟨b, off + k * 3 + 1, none⟩ = some (.int .i64 (tB l k)) := (HB.out.cell (p := ⟨b, off + k * 3 + 1, none⟩) hb).trans e1
        have c2 : wr.cell? ⟨b, off + k * 3 + 2, none⟩ = some (.int .i64 (tC l k)) := (HB.out.cell (p := ⟨b, off + k * 3 + 2, none⟩) hb).trans e2
        clear e0 e1 e2
        have hpb := pl_bd l day k
        have HP : Hid (plTo l day (k + 1) = plTo l day k + if tA l k = day ∧ 1 ≤ tC l k ∧ tC l k ≤ 1440 then tC l k else 0) := Lib.hid rfl
        have HBW : Hid (∀ o, Below w.heap.size w (wr.alloc o)) := Lib.hid (fun o => HB.out.alloc HB.out.size o)
        generalize plTo l day k = P0 at *
        generalize tA l k = a at *
        generalize tB l k = b' at *
        generalize tC l k = m at *
        rcases (show (a == day) = true ∨ (a == day) = false by cases a == day <;> simp) with t0 | t0
        rotate_left
        · have HN : Hid (plTo l day (k + 1) = P0) := Lib.hid (by rw [HP.out, if_neg (fun h => by simp at t0; exact t0 h.1)]; omega)
          go_wp2
          go_roundw
          case rel => exact ⟨k + 1, by omega, by go_num, by rw [HN.out], HBW.out _⟩
          case measure => simp [intOf]; omega
        rcases bool_cases (1 ≤ m) with t1 | t1
        rotate_left
        · have HN : Hid (plTo l day (k + 1) = P0) := Lib.hid (by rw [HP.out, if_neg (fun h => by simp at t1; omega)]; omega)
          go_wp2
          go_roundw
          case rel => exact ⟨k + 1, by omega, by go_num, by rw [HN.out], HBW.out _⟩
          case measure => simp [intOf]; omega
        rcases bool_cases (m ≤ 1440) with t2 | t2
        rotate_left
        · have HN : Hid (plTo l day (k + 1) = P0) := Lib.hid (by rw [HP.out, if_neg (fun h => by simp at t2; omega)]; omega)
          go_wp2
          go_roundw
          case rel => exact ⟨k + 1, by omega, by go_num, by rw [HN.out], HBW.out _⟩
          case measure => simp [intOf]; omega
        have HN : Hid (plTo l day (k + 1) = P0 + m) := Lib.hid (by rw [HP.out, if_pos (by simp at t0 t1 t2; exact ⟨t0, t1, t2⟩)])
        have hm1 : 1 ≤ m := by simpa using t1
        have hm2 : m ≤ 1440 := by simpa using t2
        go_wp2
        go_roundw
        case rel => exact ⟨k + 1, by omega, by go_num, by rw [HN.out], HBW.out _⟩
        case measure => simp [intOf]; omega
      · obtain rfl : k = l.length := by omega
        go_wp2
        go_ret
        exact ⟨by rw [HV.out]; rfl, HB.out⟩
  · obtain rfl : n = 1024 := by have := HN3.out; omega
    have hle' : ¬ (l.length : Int) ≤ 1024 := by omega
    have hle2 : (1024 : Int) < (l.length : Int) := by omega
    have hc2 : (1024 : Int) ≤ (c : Int) := by omega
    have hc3 : 1024 ≤ c := by omega
    go_enter Try.func16, Try.ntmps16
    go_wp2
    go_loopw [5, 7, 14] (fun v _ i wr => ∃ k : Nat, k ≤ 1024 ∧ i = .int .i64 k ∧ v = .int .i64 (plTo l day k) ∧ Below w.heap.size w wr) (fun _ _ i _ => 1024 - (intOf i).toNat)
    case atStart => exact ⟨0, Nat.zero_le _, rfl, rfl, Below.refl _ _⟩
    case round =>
      obtain ⟨k, hk, rfl, rfl, hb⟩ := hrel
      have HB := Lib.hid hb
      clear hb
      by_cases hlt : k < 1024
      · skip
        obtain ⟨b, off, rfl, hb, h0, h1, h2⟩ := HR.out.all (by omega)
        have e0 := h0 k (by omega)
        have e1 := h1 k (by omega)
        have e2 := h2 k (by omega)
        clear h0 h1 h2
        have c0 : wr.cell? ⟨b, off + k * 3, none⟩ = some (.int .i64 (tA l k)) := (HB.out.cell (p := ⟨b, off + k * 3, none⟩) hb).trans e0
        have c1 : wr.cell? ⟨b, off + k * 3 + 1, none⟩ = some (.int .i64 (tB l k)) := (HB.out.cell (p := ⟨b, off + k * 3 + 1, none⟩) hb).trans e1
        have c2 : wr.cell? ⟨b, off + k * 3 + 2, none⟩ = some (.int .i64 (tC l k)) := (HB.out.cell (p := ⟨b, off + k * 3 + 2, none⟩) hb).trans e2
        clear e0 e1 e2
        have hpb := pl_bd l day k
        have HP : Hid (plTo l day (k + 1) = plTo l day k + if tA l k = day ∧ 1 ≤ tC l k ∧ tC l k ≤ 1440 then tC l k else 0) := Lib.hid rfl
        have HBW : Hid (∀ o, Below w.heap.size w (wr.alloc o)) := Lib.hid (fun o => HB.out.alloc HB.out.size o)
        generalize plTo l day k = P0 at *
        generalize tA l k = a at *
        generalize tB l k = b' at *
        generalize tC l k = m at *
        rcases (show (a == day) = true ∨ (a == day) = false by cases a == day <;> simp) with t0 | t0
        rotate_left
        · have HN : Hid (plTo l day (k + 1) = P0) := Lib.hid (by rw [HP.out, if_neg (fun h => by simp at t0; exact t0 h.1)]; omega)
          go_wp2
          go_roundw
          case rel => exact ⟨k + 1, by omega, by go_num, by rw [HN.out], HBW.out _⟩
          case measure => simp [intOf]; omega
        rcases bool_cases (1 ≤ m) with t1 | t1
        rotate_left
        · have HN : Hid (plTo l day (k + 1) = P0) := Lib.hid (by rw [HP.out, if_neg (fun h => by simp at t1; omega)]; omega)
          go_wp2
          go_roundw
          case rel => exact ⟨k + 1, by omega, by go_num, by rw [HN.out], HBW.out _⟩
          case measure => simp [intOf]; omega
        rcases bool_cases (m ≤ 1440) with t2 | t2
        rotate_left
        · have HN : Hid (plTo l day (k + 1) = P0) := Lib.hid (by rw [HP.out, if_neg (fun h => by simp at t2; omega)]; omega)
          go_wp2
          go_roundw
          case rel => exact ⟨k + 1, by omega, by go_num, by rw [HN.out], HBW.out _⟩
          case measure => simp [intOf]; omega
        have HN : Hid (plTo l day (k + 1) = P0 + m) := Lib.hid (by rw [HP.out, if_pos (by simp at t0 t1 t2; exact ⟨t0, t1, t2⟩)])
        have hm1 : 1 ≤ m := by simpa using t1
        have hm2 : m ≤ 1440 := by simpa using t2
        go_wp2
        go_roundw
        case rel => exact ⟨k + 1, by omega, by go_num, by rw [HN.out], HBW.out _⟩
        case measure => simp [intOf]; omega
      · obtain rfl : k = 1024 := by omega
        go_wp2
        go_ret
        exact ⟨by rw [HV.out]; rfl, HB.out⟩
end Go.Proofs.Ytagkdkkpgcolkaa
