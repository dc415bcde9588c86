import Derived.Test.YtpaedhlacbpmpaaGreatDoorPX1
import Derived.Test.YtpaedhlacbpmpaaGreatDoorPX2
import Derived.Test.YtpaedhlacbpmpaaGreatDoorPX3
import Derived.Test.YtpaedhlacbpmpaaGreatDoorPX4
import Derived.Test.YtpaedhlacbpmpaaGreatDoorPX5
import Derived.Test.YtpaedhlacbpmpaaGreatDoorPX6
import Derived.Test.YtpaedhlacbpmpaaGreatDoorPX7
import Derived.Test.YtpaedhlacbpmpaaGreatDoorPX8
/-
  Theorems of other texts that the pruned base lacks. Written by extract.py.
-/
namespace Go.Proofs.YtpaedhlacbpmpaaGreatDoor
open Go.RowKit

theorem canR_zero : canR 0 = ⟨false, [], []⟩ := rfl
theorem RatsAt.kept {w w' : World} {v : Value} {ps : List Rw} (h : RatsAt w v ps) (hk : Kept w w') : RatsAt w' v ps := by
  obtain ⟨a, c, h1, h2, h3, h4⟩ := h
  exact ⟨a, c, h1, h2, h3, fun i hi => let ⟨b, o, u1, u2, h5, h6, h7, h8⟩ := h4 i hi; ⟨b, o, u1, u2, h5, range_same h6 hk, h7.kept hk, h8.kept hk⟩⟩
theorem RatsRaw.small {w : World} {v : Value} {ps : List Rw} (h : RatsRaw w v ps) (hs : ∀ r ∈ ps, r.Short 1099511627776) : RatsAt w v ps := by
  obtain ⟨a, c, h1, h2, h3, h4⟩ := h
  exact ⟨a, c, h1, h2, h3, fun i hi => let ⟨b, o, u1, u2, h5, h6, h7, h8⟩ := h4 i hi; ⟨b, o, u1, u2, h5, h6, h7.small (hs _ (List.getElem_mem _)).1, h8.small (hs _ (List.getElem_mem _)).2⟩⟩
theorem prodQ_high {s : Nat} {ps : List Rw} {n m : Nat} (h : ∀ i, n ≤ i → s.testBit i = false) (hm : n ≤ m) : prodQ s ps m = prodQ s ps n := by
  induction m with
  | zero => rw [show n = 0 by omega]
  | succ m ih =>
    by_cases he : n = m + 1
    · rw [he]
    · rw [prodQ_succ, if_neg (by rw [h m (by omega)]; simp)]
      exact ih (by omega)
theorem prob_can {q : Rat} (h0 : 0 ≤ q) (h1 : q ≤ 1) : probR (canR q) = true := by
  rw [prob_sgn (canR_ok q), canR_valid, ratOf_can]
  have s1 : 0 ≤ sgnR q := by
    unfold sgnR
    by_cases h : q = 0
    · rw [if_pos h]; decide
    · rw [if_neg h, if_neg (by grind)]; decide
  have s2 : sgnR (q - ((1 : Int) : Rat)) ≤ 0 := by
    have e : ((1 : Int) : Rat) = 1 := rfl
    rw [e]
    unfold sgnR
    by_cases h : q - 1 = 0
    · rw [if_pos h]; decide
    · rw [if_neg h, if_pos (by grind)]; decide
  rw [decide_eq_true s1, decide_eq_true s2]; rfl
theorem unit_prob {r : Rw} (hw : r.Ok) (h : probR r = true) : 0 ≤ ratOf r ∧ ratOf r ≤ 1 := by
  rw [prob_sgn hw, Bool.and_eq_true, Bool.and_eq_true, decide_eq_true_eq, decide_eq_true_eq] at h
  obtain ⟨_, h1, h2⟩ := h
  have e : ((1 : Int) : Rat) = 1 := rfl
  rw [e] at h2
  unfold sgnR at h1 h2
  constructor
  · split at h1
    · grind
    · split at h1 <;> first | grind | omega
  · split at h2
    · grind
    · split at h2 <;> first | grind | omega
theorem qOf_unit {ps : List Rw} (hok : ∀ r ∈ ps, r.Ok) (hb : badR ps = false) : ∀ i, i < ps.length → 0 ≤ qOf ps i ∧ qOf ps i ≤ 1 := fun i hi => by
  have e : ps.getD i default = ps[i] := by simp [List.getD_eq_getElem?_getD, hi]
  unfold qOf
  rw [e]
  refine unit_prob (hok _ (List.getElem_mem hi)) ?_
  unfold badR at hb
  rw [List.any_eq_false] at hb
  have := hb ps[i] (List.getElem_mem hi)
  simpa using this
end Go.Proofs.YtpaedhlacbpmpaaGreatDoor
