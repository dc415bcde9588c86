import Derived.Test.YtngbjdaaogbjmaaGreatY1m
import Derived.Test.YtngbjdaaogbjmaaGreatY10m
import Derived.Test.YtngbjdaaogbjmaaGreatK5
/-
  Plain: the example of chapter 35.
-/
namespace Go.Proofs.YtngbjdaaogbjmaaGreat
open Go.RowKit

theorem Tr.overP_mono (k : Int) (a b : Nat) (h : subN a b = true) (ha : Tr.overP k a = true) : Tr.overP k b = true := by
  unfold Tr.overP at *
  have := (pc_sub b a b (Nat.le_refl _) h).1
  simp at *
  omega
set_option linter.unusedSimpArgs false in
theorem top35_ex : topT 3 5 (Tr.overP 1) exN = some ([1], [3, 5, 6]) := by
  obtain ⟨h0, h1, h2, h3, h4, h5, h6, h7⟩ := pcs
  have p1 : pc 16777217 = 2 := by rw [show 16777217 = 2 * 2 ^ 23 + 1 by decide, pc_odd, pc_two]
  have p2 : pc 16777220 = 2 := by rw [show 16777220 = 2 * (2 * (2 * 2 ^ 21 + 1)) by decide, pc_even _ (by decide), pc_even _ (by decide), pc_odd, pc_two]
  have o0 : Tr.overP 1 0 = false := by unfold Tr.overP; rw [h0]; decide
  have o1 : Tr.overP 1 1 = false := by unfold Tr.overP; rw [h1]; decide
  have o3 : Tr.overP 1 3 = true := by unfold Tr.overP; rw [h3]; decide
  have o4 : Tr.overP 1 4 = false := by unfold Tr.overP; rw [h4]; decide
  have o5 : Tr.overP 1 5 = true := by unfold Tr.overP; rw [h5]; decide
  have o6 : Tr.overP 1 6 = true := by unfold Tr.overP; rw [h6]; decide
  have m0 : minK ([] : List Nat) = [] := by simp [minK, sortK, minN]
  have m1 : ∀ x, minK [x] = [x] := fun x => by simp [minK, sortK, insK, minN, keepN]
  have m2 : minK [16777217, 16777220] = [16777217, 16777220] := by simp +decide [minK, sortK, insK, minN, keepN, ltK, p1, p2]
  have m3 : minK [3, 5, 6] = [3, 5, 6] := by simp +decide [minK, sortK, insK, minN, keepN, ltK, h0, h1, h2, h3, h4, h5, h6, h7]
  have s3 : settleK (Tr.overP 1) [67108864] [] = some ([67108864], []) := by
    simp [settleK, settleR, settleF, evW, o0, m0, m1]
  have s2 : settleK (Tr.overP 1) [50331648] [] = some ([50331648], []) := by
    simp [settleK, settleR, settleF, evW, o0, m0, m1]
  have s1 : settleK (Tr.overP 1) [16777217, 16777220] [] = some ([16777217, 16777220], []) := by
    simp [settleK, settleR, settleF, evW, o1, o4, m0, m2]
  have s0 : settleK (Tr.overP 1) [1, 3, 5, 6] [] = some ([1], [3, 5, 6]) := by
    simp [settleK, settleR, settleF, evW, o1, o3, o5, o6, m1, m3]
  have r2 : runT 3 (Tr.overP 1) exN 3 [67108864] [] = runT 3 (Tr.overP 1) exN 2 [50331648] [] := by
    conv => lhs; unfold runT
    rw [if_pos (by decide), if_pos (by decide), show expK 3 (exN.getD 2 noNd) 2 [67108864] = [50331648] by decide, s2]; rfl
  have r1 : runT 3 (Tr.overP 1) exN 2 [50331648] [] = runT 3 (Tr.overP 1) exN 1 [16777217, 16777220] [] := by
    conv => lhs; unfold runT
    rw [if_pos (by decide), if_pos (by decide), show expK 3 (exN.getD 1 noNd) 1 [50331648] = [16777217, 16777220] by decide, s1]; rfl
  have r0 : runT 3 (Tr.overP 1) exN 1 [16777217, 16777220] [] = some ([1], [3, 5, 6]) := by
    conv => lhs; unfold runT
    rw [if_pos (by decide), if_pos (by decide), show expK 3 (exN.getD 0 noNd) 0 [16777217, 16777220] = [1, 3, 5, 6] by decide, s0]; rfl
  unfold topT
  rw [show cond 3 ((5 : Nat) : Int) = 67108864 by decide, show exN.length = 3 from rfl, s3]
  show runT 3 (Tr.overP 1) exN 3 [67108864] [] = _
  rw [r2, r1, r0]
end Go.Proofs.YtngbjdaaogbjmaaGreat
