import Derived.Test.YtapniojbnochiaaZ5m
/-
  The law TopdownGates: from its walk to its row.
-/
namespace Go.Proofs.Ytapniojbnochiaa
open Go.RowKit Go.ChangeShapes Go.WideShapes Go.ChangeAt Go.Joins Go.Deep

set_option maxRecDepth 100000 in
theorem topdownGates_lifted (os : Os) (started : os.Started) (H : Type) (enc : TypeId × Value → H) :
    ReturnsInHanded {} Try.checked os 14 .any (Rows.topdownGatesSpec.pre6 enc Try.prog Try.f14 Rows.topdownGatesRow.domain false) (Rows.topdownGatesSpec.post enc Try.prog Try.f14 false true false false) := by
  refine returnsInHanded_of_change_sized (C := Try.checked) ownK started (by kernel_rfl) Try.func14
    (ChangeSpec.witness6 (enc := enc) (C := Try.checked) false ⟨#[], #[.agg #[.int .i64 0, .slice none 0 0, .int .i64 0], .int .u8 0, .int .u8 0], []⟩ 8 (by kernel_rfl) (by kernel_rfl) (by kernel_rfl) (by kernel_rfl)) ?_
  intro W base args ds gs before hval hW _ hsz _
  exact lift3 14 Try.f14 5 .u8 Try.underlying5 (by kernel_rfl) (of_decide_eq_true (by kernel_rfl)) rfl (fun _ _ _ _ => rfl) Try.params14 (by kernel_rfl) gates_true W base args ds gs before hval hW hsz
theorem topdownGates_holds : Rows.TopdownGatesSaid :=
  OpenClaim.holds_of_wide 14 Try.f14 rfl rfl rfl rfl rfl rfl rfl ⟨rfl, rfl, rfl, rfl, rfl⟩ rfl rfl rfl rfl rfl (by kernel_rfl) Try.func14 (by kernel_rfl)
    (of_decide_eq_true (by kernel_rfl)) (by unfold Func.isWrapper; first | (rw [if_pos (by decide +kernel)]; kernel_rfl) | (rw [if_neg (by decide +kernel)]; exact ⟨rfl, rfl⟩))
    (fun os started H enc _ => topdownGates_lifted os started H enc)
end Go.Proofs.Ytapniojbnochiaa
