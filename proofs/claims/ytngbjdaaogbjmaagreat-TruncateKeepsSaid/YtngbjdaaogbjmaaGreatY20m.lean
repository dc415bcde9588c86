import Derived.Test.YtngbjdaaogbjmaaGreatY19m
/-
  The law TruncateKeeps: from its walk to its row.
-/
namespace Go.Proofs.YtngbjdaaogbjmaaGreat
open Go.RowKit Go.ChangeShapes Go.WideShapes Go.ChangeAt Go.Joins Go.Deep

set_option maxRecDepth 100000 in
theorem truncateKeeps_lifted (os : Os) (started : os.Started) (H : Type) (enc : TypeId × Value → H) :
    ReturnsInHanded {} Tryz.checked os 4 .any (Rows.truncateKeepsSpec.pre6 enc Tryz.prog Tryz.f4 Rows.truncateKeepsRow.domain false) (Rows.truncateKeepsSpec.post enc Tryz.prog Tryz.f4 false true false false) := by
  refine returnsInHanded_of_change_sized (C := Tryz.checked) ownK started (by kernel_rfl) Tryz.func4
    (ChangeSpec.witness6 (enc := enc) (C := Tryz.checked) false ⟨#[], #[.agg #[.int .i64 0, .slice none 0 0, .int .i64 0], .int .u8 0], []⟩ 8 (by kernel_rfl) (by kernel_rfl) (by kernel_rfl) (by kernel_rfl)) ?_
  intro W base args ds gs before hval hW _ hsz _
  exact lift2 4 Tryz.f4 5 .u8 Tryz.underlying5 (by kernel_rfl) (of_decide_eq_true (by kernel_rfl)) rfl (fun _ _ _ => rfl) Tryz.params4 (by kernel_rfl) keeps_true W base args ds gs before hval hW hsz
theorem truncateKeeps_holds : Rows.TruncateKeepsSaid :=
  OpenClaim.holds_of_wide 4 Tryz.f4 rfl rfl rfl rfl rfl rfl rfl ⟨rfl, rfl, rfl, rfl, rfl⟩ rfl rfl rfl rfl rfl (by kernel_rfl) Tryz.func4 (by kernel_rfl)
    (of_decide_eq_true (by kernel_rfl)) (by unfold Func.isWrapper; first | (rw [if_pos (by decide +kernel)]; kernel_rfl) | (rw [if_neg (by decide +kernel)]; exact ⟨rfl, rfl⟩))
    (fun os started H enc _ => truncateKeeps_lifted os started H enc)
end Go.Proofs.YtngbjdaaogbjmaaGreat
