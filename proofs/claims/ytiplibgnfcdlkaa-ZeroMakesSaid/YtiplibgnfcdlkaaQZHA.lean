import Derived.Test.YtiplibgnfcdlkaaQZH4
import Derived.Test.YtiplibgnfcdlkaaQ34
/-
  The law ZeroMakes holds: whatever the arguments, it returns true and leaves them as they were.
-/
namespace Go.Proofs.Ytiplibgnfcdlkaa
open Go.RowKit Go.ChangeShapes Go.WideShapes Go.ChangeAt Go.Joins Go.Deep

set_option maxRecDepth 100000 in
theorem zeroMakes_lifted (os : Os) (started : os.Started) (H : Type) (enc : TypeId × Value → H) :
    ReturnsInHanded {} Try.checked os 3 .any (Rows.zeroMakesSpec.pre6 enc Try.prog Try.f3 Rows.zeroMakesRow.domain false) (Rows.zeroMakesSpec.post enc Try.prog Try.f3 false true false false) := by
  refine returnsInHanded_of_change_sized (C := Try.checked) ownKz started (by kernel_rfl) Try.func3
    (ChangeSpec.witness6 (enc := enc) (C := Try.checked) false ⟨#[], #[.agg #[.slice none 0 0, .int .i64 0], .slice none 0 0], []⟩ 8 (by kernel_rfl) (by kernel_rfl) (by kernel_rfl) (by kernel_rfl)) ?_
  intro W base args ds gs before hval hW _ hsz _
  exact liftZI 3 Try.f3 rfl (fun _ _ _ => rfl) Try.params3 (by kernel_rfl) (fun W v0 x0 r0 v1 x1 h0 h1 => zeroMakes_true v0 v1 x0 r0 x1 W h0 h1) W base args ds gs before hval hW hsz
theorem zeroMakes_holds : Rows.ZeroMakesSaid :=
  OpenClaim.holds_of_wide 3 Try.f3 rfl rfl rfl rfl rfl rfl rfl ⟨rfl, rfl, rfl, rfl, rfl⟩ rfl rfl rfl rfl rfl (by kernel_rfl) Try.func3 (by kernel_rfl)
    (of_decide_eq_true (by kernel_rfl)) (by unfold Func.isWrapper; first | (rw [if_pos (by decide +kernel)]; kernel_rfl) | (rw [if_neg (by decide +kernel)]; exact ⟨rfl, rfl⟩))
    (fun os started H enc _ => zeroMakes_lifted os started H enc)
end Go.Proofs.Ytiplibgnfcdlkaa
