import Derived.Test.YtiplibgnfcdlkaaQZH6
import Derived.Test.YtiplibgnfcdlkaaQ34
/-
  The law ZeroPicks holds: whatever the arguments, it returns true and leaves them as they were.
-/
namespace Go.Proofs.Ytiplibgnfcdlkaa
open Go.RowKit Go.ChangeShapes Go.WideShapes Go.ChangeAt Go.Joins Go.Deep

set_option maxRecDepth 100000 in
theorem zeroPicks_lifted (os : Os) (started : os.Started) (H : Type) (enc : TypeId × Value → H) :
    ReturnsInHanded {} Try.checked os 8 .any (Rows.zeroPicksSpec.pre6 enc Try.prog Try.f8 Rows.zeroPicksRow.domain false) (Rows.zeroPicksSpec.post enc Try.prog Try.f8 false true false false) := by
  refine returnsInHanded_of_change_sized (C := Try.checked) ownKz started (by kernel_rfl) Try.func8
    (ChangeSpec.witness6 (enc := enc) (C := Try.checked) false ⟨#[], #[.agg #[.slice none 0 0, .int .i64 0], .int .i64 0, .int .i64 0], []⟩ 8 (by kernel_rfl) (by kernel_rfl) (by kernel_rfl) (by kernel_rfl)) ?_
  intro W base args ds gs before hval hW _ hsz _
  exact liftZNN 8 Try.f8 rfl (fun _ _ _ _ => rfl) Try.params8 (by kernel_rfl) (fun W v0 x0 r0 x1 x2 h0 _ _ => zeroPicks_true v0 x0 r0 x1 x2 W h0) W base args ds gs before hval hW hsz
theorem zeroPicks_holds : Rows.ZeroPicksSaid :=
  OpenClaim.holds_of_wide 8 Try.f8 rfl rfl rfl rfl rfl rfl rfl ⟨rfl, rfl, rfl, rfl, rfl⟩ rfl rfl rfl rfl rfl (by kernel_rfl) Try.func8 (by kernel_rfl)
    (of_decide_eq_true (by kernel_rfl)) (by unfold Func.isWrapper; first | (rw [if_pos (by decide +kernel)]; kernel_rfl) | (rw [if_neg (by decide +kernel)]; exact ⟨rfl, rfl⟩))
    (fun os started H enc _ => zeroPicks_lifted os started H enc)
end Go.Proofs.Ytiplibgnfcdlkaa
