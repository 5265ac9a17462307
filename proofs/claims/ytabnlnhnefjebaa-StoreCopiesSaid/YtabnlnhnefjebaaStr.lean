/-
  Bytes as strings. The type of bytes of the given program; no conditions.
-/
import Derived.Test.YtabnlnhnefjebaaStL
import Derived.Laws.BytesArg
namespace Go.Proofs.Ytabnlnhnefjebaa
open Go.RowKit
set_option linter.unusedVariables false
set_option linter.unusedSimpArgs false
theorem und9 : Try.prog.underlying 9 = some .string := by kernel_rfl
/-- a row of bytes read as a string -/
theorem str_own {w : World} {base n c : Nat} {A : Option Addr} {l : List Int} (h : w.ownsRow base 5 1 (.slice A n c) n (u8s l)) : (convert 23 9 (.slice A n c)).run Try.prog w = .ok (.string (strOfNums l)) w := by
  have hl : l.length = n := by have := h.1; rw [u8s_len, Nat.mul_one] at this; exact this
  rcases h.2 with ⟨h1, h2⟩ | ⟨g, cap, cur, h1, h2, h3, h4, h5, h6, h7⟩
  · injection h1 with a1 a2 a3
    subst a1
    have e : l = [] := List.eq_nil_of_length_eq_zero (by omega)
    subst e
    exact run_convert_bytes_nil w 23 5 und23 und5 n c 9 und9
  · injection h1 with a1 a2 a3
    subst a1
    refine run_convert_bytes_arg w 23 5 und23 und5 g 0 n c l hl (fun i hi => ?_) 9 und9
    have := h.cells (g := g) rfl i _ (u8s_get l i (by omega))
    rw [Go.WideShapes.add_plain] at this
    exact this
theorem strOf_inj (a b : List Int) (ha : byteOk a) (hb : byteOk b) (h : strOfNums a = strOfNums b) : a = b := by
  have h1 : (strOfNums a).data.toList = (strOfNums b).data.toList := by rw [h]
  rw [strOfNums_data, strOfNums_data] at h1
  exact toB_inj a b ha hb h1
end Go.Proofs.Ytabnlnhnefjebaa
