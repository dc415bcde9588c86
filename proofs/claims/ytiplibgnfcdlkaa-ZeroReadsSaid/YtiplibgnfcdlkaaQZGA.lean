import Derived.Test.YtiplibgnfcdlkaaQZG9
import Derived.Test.YtiplibgnfcdlkaaQ34
/-
  The law ZeroReads holds: whatever the arguments, it returns true and leaves them as they were.
-/
namespace Go.Proofs.Ytiplibgnfcdlkaa
open Go.RowKit Go.ChangeShapes Go.WideShapes Go.ChangeAt Go.Joins Go.Deep

set_option maxRecDepth 100000 in
theorem zeroReads_lifted (os : Os) (started : os.Started) (H : Type) (enc : TypeId × Value → H) :
    ReturnsInHanded {} Try.checked os 7 .any (Rows.zeroReadsSpec.pre6 enc Try.prog Try.f7 Rows.zeroReadsRow.domain false) (Rows.zeroReadsSpec.post enc Try.prog Try.f7 false true false false) := by
  refine returnsInHanded_of_change_sized (C := Try.checked) ownKz started (by kernel_rfl) Try.func7
    (ChangeSpec.witness6 (enc := enc) (C := Try.checked) false ⟨#[], #[.agg #[.slice none 0 0, .int .i64 0], .int .i64 0], []⟩ 8 (by kernel_rfl) (by kernel_rfl) (by kernel_rfl) (by kernel_rfl)) ?_
  intro W base args ds gs before hval hW _ hsz _
  exact liftZN 7 Try.f7 rfl (fun _ _ _ => rfl) Try.params7 (by kernel_rfl) (fun W v0 x0 r0 x1 h0 _ => zeroReads_true v0 x0 r0 x1 W h0) W base args ds gs before hval hW hsz
theorem zeroReads_holds : Rows.ZeroReadsSaid :=
  OpenClaim.holds_of_wide 7 Try.f7 rfl rfl rfl rfl rfl rfl rfl ⟨rfl, rfl, rfl, rfl, rfl⟩ rfl rfl rfl rfl rfl (by kernel_rfl) Try.func7 (by kernel_rfl)
    (of_decide_eq_true (by kernel_rfl)) (by unfold Func.isWrapper; first | (rw [if_pos (by decide +kernel)]; kernel_rfl) | (rw [if_neg (by decide +kernel)]; exact ⟨rfl, rfl⟩))
    (fun os started H enc _ => zeroReads_lifted os started H enc)
end Go.Proofs.Ytiplibgnfcdlkaa
