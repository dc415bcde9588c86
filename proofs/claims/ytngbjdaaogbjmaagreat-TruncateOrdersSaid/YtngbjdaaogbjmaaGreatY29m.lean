import Derived.Test.YtngbjdaaogbjmaaGreatY28m
/-
  The law TruncateOrders: from its walk to its row.
-/
namespace Go.Proofs.YtngbjdaaogbjmaaGreat
open Go.RowKit Go.ChangeShapes Go.WideShapes Go.ChangeAt Go.Joins Go.Deep

set_option maxRecDepth 100000 in
theorem truncateOrders_lifted (os : Os) (started : os.Started) (H : Type) (enc : TypeId × Value → H) :
    ReturnsInHanded {} Tryz.checked os 3 .any (Rows.truncateOrdersSpec.pre6 enc Tryz.prog Tryz.f3 Rows.truncateOrdersRow.domain false) (Rows.truncateOrdersSpec.post enc Tryz.prog Tryz.f3 false true false false) := by
  refine returnsInHanded_of_change_sized (C := Tryz.checked) ownK started (by kernel_rfl) Tryz.func3
    (ChangeSpec.witness6 (enc := enc) (C := Tryz.checked) false ⟨#[], #[.agg #[.int .i64 0, .slice none 0 0, .int .i64 0], .int .i64 0], []⟩ 8 (by kernel_rfl) (by kernel_rfl) (by kernel_rfl) (by kernel_rfl)) ?_
  intro W base args ds gs before hval hW _ hsz _
  exact lift2 3 Tryz.f3 3 .i64 Tryz.underlying3 (by kernel_rfl) (of_decide_eq_true (by kernel_rfl)) rfl (fun _ _ _ => rfl) Tryz.params3 (by kernel_rfl) orders_true W base args ds gs before hval hW hsz
theorem truncateOrders_holds : Rows.TruncateOrdersSaid :=
  OpenClaim.holds_of_wide 3 Tryz.f3 rfl rfl rfl rfl rfl rfl rfl ⟨rfl, rfl, rfl, rfl, rfl⟩ rfl rfl rfl rfl rfl (by kernel_rfl) Tryz.func3 (by kernel_rfl)
    (of_decide_eq_true (by kernel_rfl)) (by unfold Func.isWrapper; first | (rw [if_pos (by decide +kernel)]; kernel_rfl) | (rw [if_neg (by decide +kernel)]; exact ⟨rfl, rfl⟩))
    (fun os started H enc _ => truncateOrders_lifted os started H enc)
end Go.Proofs.YtngbjdaaogbjmaaGreat
