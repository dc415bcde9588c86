import Derived.Test.YtngbjdaaogbjmaaGreatK5
/-
  The law TopdownTyped returns true, whatever the formula.
-/
namespace Go.Proofs.YtngbjdaaogbjmaaGreat
open Go.RowKit

theorem is_all (q c : Nat) (w : World) (hc : c ≠ 0) : Calls Tryz.prog 30 #[errV q, .int .i64 c] w fun e w' => e = .returned (.bool (q == c)) ∧ w = w' := by
  by_cases h : q = 0
  · subst h
    rw [errV_zero, show ((0 : Nat) == c) = false by simp; omega]
    exact is_nil c w
  · exact is_any q c h w
def negK (ks : List Int) : Bool := ks.any fun k => k == 1 || k == 5
theorem negK_mono (ks : List Int) : negK ks = !monoK ks := by
  unfold negK monoK
  induction ks with
  | nil => rfl
  | cons k l ih => rw [List.any_cons, List.all_cons, ih]; cases h : (k == 1 || k == 5) <;> simp
end Go.Proofs.YtngbjdaaogbjmaaGreat
