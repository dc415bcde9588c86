import Derived.Test.YtngbjdaaogbjmaaGreatR3m
/-
  Walks: faultlineref06.Plus, Product.
-/
namespace Go.Proofs.YtngbjdaaogbjmaaGreat
open Go.RowKit

/-- What a reference returns: a list and 0, or no list and ErrLarge. -/
def RRes (w' : World) (e : Ending) (r : Option (List Nat)) : Prop :=
  match r with
  | some l => ∃ v, e = .returned (.tuple #[v, .int .i64 0]) ∧ OwnSets w' 0 v l
  | none => e = .returned (.tuple #[.slice none 0 0, .int .i64 4])
theorem minK_prods (a b acc : List Nat) (h : ∀ z, z ∈ acc ↔ ∃ x ∈ a, ∃ y ∈ b, z = x ||| y) : minK acc = minK (allU (minK a) (minK b)) := by
  refine minK_of_up fun s => ?_
  have h1 : up acc s ↔ up (allU a b) s := by
    unfold up
    constructor
    · rintro ⟨t, ht, h2⟩; exact ⟨t, (mem_allU a b t).2 ((h t).1 ht), h2⟩
    · rintro ⟨t, ht, h2⟩; exact ⟨t, (h t).2 ((mem_allU a b t).1 ht), h2⟩
  rw [h1, up_allU, up_allU, up_minK, up_minK]
end Go.Proofs.YtngbjdaaogbjmaaGreat
