import Derived.Test.YtiplibgnfcdlkaaQZI7
import Derived.Test.YtiplibgnfcdlkaaQ34
/-
  The law ZeroJoins holds: whatever the arguments, it returns true and leaves them as they were.
-/
namespace Go.Proofs.Ytiplibgnfcdlkaa
open Go.RowKit Go.ChangeShapes Go.WideShapes Go.ChangeAt Go.Joins Go.Deep

set_option maxRecDepth 100000 in
theorem zeroJoins_lifted (os : Os) (started : os.Started) (H : Type) (enc : TypeId × Value → H) :
    ReturnsInHanded {} Try.checked os 6 .any (Rows.zeroJoinsSpec.pre6 enc Try.prog Try.f6 Rows.zeroJoinsRow.domain false) (Rows.zeroJoinsSpec.post enc Try.prog Try.f6 false true false false) := by
  refine returnsInHanded_of_change_sized (C := Try.checked) ownKz started (by kernel_rfl) Try.func6
    (ChangeSpec.witness6 (enc := enc) (C := Try.checked) false ⟨#[], #[.agg #[.slice none 0 0, .int .i64 0], .agg #[.slice none 0 0, .int .i64 0], .agg #[.slice none 0 0, .int .i64 0]], []⟩ 8 (by kernel_rfl) (by kernel_rfl) (by kernel_rfl) (by kernel_rfl)) ?_
  intro W base args ds gs before hval hW _ hsz _
  exact liftZZZ 6 Try.f6 rfl (fun _ _ _ _ => rfl) Try.params6 (by kernel_rfl) (fun W v0 x0 r0 v1 x1 r1 v2 x2 r2 h0 h1 h2 => zeroJoins_true v0 v1 v2 x0 x1 x2 r0 r1 r2 W h0 h1 h2) W base args ds gs before hval hW hsz
theorem zeroJoins_holds : Rows.ZeroJoinsSaid :=
  OpenClaim.holds_of_wide 6 Try.f6 rfl rfl rfl rfl rfl rfl rfl ⟨rfl, rfl, rfl, rfl, rfl⟩ rfl rfl rfl rfl rfl (by kernel_rfl) Try.func6 (by kernel_rfl)
    (of_decide_eq_true (by kernel_rfl)) (by unfold Func.isWrapper; first | (rw [if_pos (by decide +kernel)]; kernel_rfl) | (rw [if_neg (by decide +kernel)]; exact ⟨rfl, rfl⟩))
    (fun os started H enc _ => zeroJoins_lifted os started H enc)
end Go.Proofs.Ytiplibgnfcdlkaa
