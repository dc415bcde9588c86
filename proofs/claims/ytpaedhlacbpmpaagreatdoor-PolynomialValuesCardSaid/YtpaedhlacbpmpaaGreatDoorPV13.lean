import Derived.Test.YtpaedhlacbpmpaaGreatDoorPX1
import Derived.Test.YtpaedhlacbpmpaaGreatDoorPX2
import Derived.Test.YtpaedhlacbpmpaaGreatDoorPX3
import Derived.Test.YtpaedhlacbpmpaaGreatDoorPX4
import Derived.Test.YtpaedhlacbpmpaaGreatDoorPX5
import Derived.Test.YtpaedhlacbpmpaaGreatDoorPX6
import Derived.Test.YtpaedhlacbpmpaaGreatDoorPX7
import Derived.Test.YtpaedhlacbpmpaaGreatDoorPV8
import Derived.Test.YtpaedhlacbpmpaaGreatDoorPV12
/-
  Walk: the law PolynomialValues returns true, whatever the polynomial, the numbers and the set. Printed by gen_PH.py.
-/
namespace Go.Proofs.YtpaedhlacbpmpaaGreatDoor
open Go.RowKit

theorem pvalues_true (v0 v1 : Value) (x0 : List Trm) (x1 : List Rw) (x2 y2 : Int) (w : World) (g0 : TrmsRaw w v0 x0) (g1 : RatsRaw w v1 x1) (_ : (Lit.int .i64 x2).wf = true) (_ : (Lit.int .i64 y2).wf = true) :
    Calls Tryz.prog 7 #[v0, v1, .agg #[.int .i64 x2, .int .i64 y2]] w fun e w' => e = .returned (.bool true) ∧ Kept w w' := by
  by_cases h : y2 < 0 ∨ 24 ≤ y2
  · exact pvalues_bad v0 v1 x0 x1 x2 y2 w g0 g1 h
  · exact pvalues_ok v0 v1 x0 x1 x2 y2 w g0 g1 (by omega) (by omega)
end Go.Proofs.YtpaedhlacbpmpaaGreatDoor
