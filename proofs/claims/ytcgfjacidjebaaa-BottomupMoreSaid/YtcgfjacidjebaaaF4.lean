/-
  Plain: the example's families.
-/
import Derived.Test.YtcgfjacidjebaaaE6
import Derived.Test.YtcgfjacidjebaaaF2
import Derived.Test.YtcgfjacidjebaaaF3
namespace Go.Proofs.Ytcgfjacidjebaaa
open Go.RowKit

def exF : Fm := ⟨3, exN, 5⟩
theorem chk_ex : chkF exF = 0 := by decide
theorem syn_ex : synK 3 5 exF = true := by decide
theorem ok_ex : Ok exF 3 5 := by
  obtain ⟨V, T, h⟩ := ok_of exF chk_ex
  have h1 : (3 : Int) = (V : Int) := h.vars
  have h2 : (5 : Int) = (T : Int) := h.top
  obtain rfl : V = 3 := by omega
  obtain rfl : T = 5 := by omega
  exact h
theorem pcs : pc 0 = 0 ∧ pc 1 = 1 ∧ pc 2 = 1 ∧ pc 3 = 2 ∧ pc 4 = 1 ∧ pc 5 = 2 ∧ pc 6 = 2 ∧ pc 7 = 3 := by
  have h0 : pc 0 = 0 := by unfold pc; simp
  have h1 : pc 1 = 1 := by unfold pc; simp [h0]
  have h2 : pc 2 = 1 := by unfold pc; simp [h1]
  have h3 : pc 3 = 2 := by unfold pc; simp [h1]
  have h4 : pc 4 = 1 := by unfold pc; simp [h2]
  have h5 : pc 5 = 2 := by unfold pc; simp [h2]
  have h6 : pc 6 = 2 := by unfold pc; simp [h3]
  have h7 : pc 7 = 3 := by unfold pc; simp [h3]
  exact ⟨h0, h1, h2, h3, h4, h5, h6, h7⟩
theorem below_ex : belowK 3 5 exN = [true, true, true, true, true, true] := by decide
set_option linter.unusedSimpArgs false in
theorem fams_ex : famsK 3 5 exN = some [[1, 2], [1, 4], [1, 6]] := by
  obtain ⟨h0, h1, h2, h3, h4, h5, h6, h7⟩ := pcs
  unfold famsK
  rw [below_ex]
  simp +decide [addU, rowU, famsUp, famStep, exN, nodeK, foldK, plusK, productK, minK, sortK, insK, ltK, minN, keepN, allU, famArg, h0, h1, h2, h3, h4, h5, h6, h7]
end Go.Proofs.Ytcgfjacidjebaaa
