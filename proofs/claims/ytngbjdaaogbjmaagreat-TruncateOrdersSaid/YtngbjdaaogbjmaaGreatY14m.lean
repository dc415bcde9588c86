import Derived.Test.YtngbjdaaogbjmaaGreatY1m
/-
  Plain: the search with a limit: where it stands ahead of settle.
-/
namespace Go.Proofs.YtngbjdaaogbjmaaGreat

structure Pend (V T : Nat) (f : Fm) (P : Nat → Bool) (M F : List Nat) (m : Nat) : Prop where
  le : m ≤ f.nodes.length
  len : M.length ≤ 4096
  lenF : F.length ≤ 1024
  mkF : ∀ t ∈ F, t < 16777216
  bad : 1024 < (settleR P M).length ∨ 1024 < (settleF P M F).length → topT V T P f.nodes = none
  good : ∀ R : List Nat, R.Perm (settleR P M) → ¬ (1024 < (settleR P M).length ∨ 1024 < (settleF P M F).length) → TStand V T f P R (settleF P M F) m
theorem pend_start {V T : Nat} {f : Fm} (hok : Ok f V T) (P : Nat → Bool) : Pend V T f P [cond V T] [] f.nodes.length :=
  ⟨Nat.le_refl _, by simp, by simp, by simp, fun h => TStand.bad h, fun R hR h => TStand.start hok hR rfl (by rw [hR.length_eq]; omega) (by omega)⟩
theorem pend_next {V T : Nat} {f : Fm} (hok : Ok f V T) {P : Nat → Bool} {L F : List Nat} {m i : Nat} (h : TStand V T f P L F m) (hi : ∃ c ∈ L, c.testBit (24 + i) = true) (hmax : ∀ c ∈ L, ∀ j, c.testBit (24 + j) = true → j ≤ i)
    (hl4 : (expK V (f.nodes.getD i noNd) i L).length ≤ 4096) : i < m ∧ Pend V T f P (expK V (f.nodes.getD i noNd) i L) F i := by
  obtain ⟨him, _⟩ := h.at hi hmax
  exact ⟨him, Nat.le_of_lt (Nat.lt_of_lt_of_le him h.le), hl4, h.lenF, h.mkF, fun hb => h.many hi hmax hb, fun R hR hb => h.next hok hi hmax hl4 hR rfl (by rw [hR.length_eq]; omega) (by omega)⟩
end Go.Proofs.YtngbjdaaogbjmaaGreat
