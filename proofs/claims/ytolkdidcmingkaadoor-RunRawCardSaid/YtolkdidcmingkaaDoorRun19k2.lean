/-
  Chapter 40: the reference's Step, in parts.
-/
import Derived.Test.YtolkdidcmingkaaDoorRun19k2a
import Derived.Test.YtolkdidcmingkaaDoorRun19k2b
import Derived.Test.YtolkdidcmingkaaDoorRun19k2c
namespace Go.Proofs.YtolkdidcmingkaaDoor
open Go.RowKit
set_option linter.unusedVariables false
set_option linter.unusedSimpArgs false

theorem rstep_k2 (s : Int) (A : Option Addr) (c : Nat) (E : List Int) (c0 c1 c2 : Int) (Q : Option Addr) (q : Nat) (F : List Int) (d0 d1 d2 : Int) (w : World) (hr : RdI w w.heap.size A E) (hl : E.length ≤ 100000) (hq : RdI w w.heap.size Q F) (hlq : F.length ≤ 100000) (hv : validB s E (c0, c1, c2) = true) (hf : formB 2 F.length (eqC (d0, d1, d2) (0, 0, 0)) = true) (hm : mayB s 2 = true) :
    Calls Tryd.prog 17 #[.agg #[.int .i64 s, .slice A E.length c, .int .i64 c0, .int .i64 c1, .int .i64 c2], .agg #[.int .i64 2, .slice Q F.length q, .int .i64 d0, .int .i64 d1, .int .i64 d2]] w (StepPost s E (c0, c1, c2) 2 F (d0, d1, d2) w) := by
  cases hc : ctlB (d0, d1, d2)
  · exact rstep_k2a s A c E c0 c1 c2 Q q F d0 d1 d2 w hr hl hq hlq hv hf hm hc
  · cases t1 : decide ((E.length : Int) < d0)
    · exact rstep_k2c s A c E c0 c1 c2 Q q F d0 d1 d2 w hr hl hq hlq hv hf hm hc t1
    · exact rstep_k2b s A c E c0 c1 c2 Q q F d0 d1 d2 w hr hl hq hlq hv hf hm hc t1
end Go.Proofs.YtolkdidcmingkaaDoor
