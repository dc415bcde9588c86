/-
  Nodes of the call's own stay behind a store into a formula.
-/
import Derived.Test.YtcgfjacidjebaaaS7
namespace Go.Proofs.Ytcgfjacidjebaaa
open Go.RowKit

theorem own_heap {w w' : World} {B size n : Nat} {e : TypeId} {v : Value} {cells : List Value} (h : w.ownsRow B e size v n cells) (hb : ∀ g, v.ownBlock = some g → w'.heap[g]? = w.heap[g]?) : w'.ownsRow B e size v n cells := by
  obtain ⟨h1, h2⟩ := h
  refine ⟨h1, ?_⟩
  rcases h2 with h2 | ⟨g, cap, cur, rfl, a, b, c⟩
  · exact .inl h2
  · exact .inr ⟨g, cap, cur, rfl, a, (hb g rfl).trans b, c⟩
theorem row_apart {w : World} {gx B size n : Nat} {e : TypeId} {v : Value} {cs cells : List Value} (h : w.ownsRow B e size v n cells) (he : e ≠ 24) (hx : RowAt w gx 24 cs) : ∀ g, v.ownBlock = some g → g ≠ gx := by
  obtain ⟨_, h2⟩ := h
  obtain ⟨cur, hx1, _⟩ := hx
  intro g hg e2
  subst e2
  rcases h2 with ⟨rfl, _⟩ | ⟨g', cap, cur2, rfl, _, h7, _⟩
  · cases hg
  · have : g' = g := by simpa [Value.ownBlock] using hg
    subst this
    rw [hx1] at h7
    injection h7 with h7
    injection h7 with _ h8 _
    exact he h8.symm
theorem OwnNodes.store {w : World} {gx B : Nat} {v : Value} {xs : List Nd} {cs : List Value} (h : OwnNodes w B v xs) (hx : RowAt w gx 24 cs) (i : Nat) (u : Value) : OwnNodes (w.setCell ⟨gx, i, none⟩ u) B v xs := by
  obtain ⟨cells, h1, h2, h3⟩ := h
  refine ⟨cells, own_heap h1 fun g hg => Below.heap_setCell w ⟨gx, i, none⟩ u g (row_apart h1 (by decide) hx g hg), h2, fun j hj => ?_⟩
  obtain ⟨y, a, b, c, d⟩ := h3 j hj
  exact ⟨y, a, b, c, own_heap d.1 fun g hg => Below.heap_setCell w ⟨gx, i, none⟩ u g (row_apart d.1 (by decide) hx g hg), d.2⟩
end Go.Proofs.Ytcgfjacidjebaaa
