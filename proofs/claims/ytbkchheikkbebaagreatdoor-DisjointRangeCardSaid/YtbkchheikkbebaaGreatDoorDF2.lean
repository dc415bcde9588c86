import Derived.Test.YtbkchheikkbebaaGreatDoorDD1
import Derived.Test.YtbkchheikkbebaaGreatDoorDD2
import Derived.Test.YtbkchheikkbebaaGreatDoorDD3
import Derived.Test.YtbkchheikkbebaaGreatDoorDD4
import Derived.Test.YtbkchheikkbebaaGreatDoorDD5
import Derived.Test.YtbkchheikkbebaaGreatDoorDD6
import Derived.Test.YtbkchheikkbebaaGreatDoorDD7
import Derived.Test.YtbkchheikkbebaaGreatDoorDD8
import Derived.Test.YtbkchheikkbebaaGreatDoorDD9
/-
  Plain: the probability of accepted cubes lies from 0 to 1 and is the sum of those of its cubes alone.
-/
namespace Go.Proofs.YtbkchheikkbebaaGreatDoor
open Go.RowKit

theorem prbD_err {L0 : List (Int × Int)} {ps : List Rw} (h : (prbD L0 ps).1 ≠ 0) : (prbD L0 ps).2 = 0 := by
  unfold prbD at h ⊢
  split
  · rfl
  · rename_i h1
    rw [if_neg h1] at h
    unfold prbT at h ⊢
    split
    · rfl
    · rename_i h2
      rw [if_neg h2] at h
      split
      · rfl
      · rename_i h3
        rw [if_neg h3] at h
        exact absurd rfl h
theorem prbD_zero {L0 : List (Int × Int)} {ps : List Rw} (h : (prbD L0 ps).1 = 0) :
    chkD L0 = 0 ∧ (∀ c ∈ L0.map natC, gtK (c.1 ||| c.2) < (ps.length : Int)) ∧ badR ps = false ∧ (prbD L0 ps).2 = sumWs ps (L0.map natC) (L0.map natC).length := by
  unfold prbD at h ⊢
  split at h
  · rename_i h1; exact absurd h h1
  · rename_i h1
    rw [if_neg h1]
    unfold prbT at h ⊢
    split at h
    · cases h
    · rename_i h2
      rw [if_neg h2]
      split at h
      · cases h
      · rename_i h3
        rw [if_neg h3]
        refine ⟨Classical.byContradiction h1, fun c hc => ?_, by simpa using h3, rfl⟩
        refine Classical.byContradiction fun hn => h2 (List.any_eq_true.2 ⟨c, hc, decide_eq_true ?_⟩)
        omega
theorem bit_top {s i : Nat} (hs : s < 16777216) (h : s.testBit i = true) : (i : Int) ≤ gtK s := by
  unfold gtK
  have h1 : 2 ^ i ≤ s := Nat.ge_two_pow_of_testBit h
  have h64 : s < 2 ^ 64 := Nat.lt_of_lt_of_le hs (by decide)
  have h4 := bitLen_lt h64
  have h5 : i < Lib.bitLen s := (Nat.pow_lt_pow_iff_right (by omega : 1 < 2)).1 (Nat.lt_of_le_of_lt h1 h4)
  omega
theorem bits_lt {c : Nat × Nat} {n : Nat} (hc : CbOk c) (h : gtK (c.1 ||| c.2) < (n : Int)) : (∀ i, c.1.testBit i = true → i < n) ∧ ∀ i, c.2.testBit i = true → i < n := by
  have hl : c.1 ||| c.2 < 16777216 := Nat.or_lt_two_pow (n := 24) hc.1 hc.2.1
  refine ⟨fun i hi => ?_, fun i hi => ?_⟩
  · have := bit_top hl (i := i) (by rw [Nat.testBit_or, hi]; rfl)
    omega
  · have := bit_top hl (i := i) (by rw [Nat.testBit_or, hi]; simp)
    omega
theorem chkD_each {L0 : List (Int × Int)} (h : chkD L0 = 0) : ∀ c ∈ L0, chkCb c = 0 := by
  unfold chkD at h
  split at h
  · cases h
  · split at h
    · rename_i h1; exact absurd h h1
    · rename_i h1
      exact chkCs_zero (Classical.byContradiction h1)
theorem chkD_one {c : Int × Int} (h : chkCb c = 0) : chkD [c] = 0 := by
  have h1 : chkCs [c] = 0 := by unfold chkCs; rw [if_neg (by rw [h]; simp)]; rfl
  unfold chkD
  rw [if_neg (by simp), if_neg (by rw [h1]; simp), if_neg]
  have : metT [c] 1 = false := rfl
  show ¬ metT [c] 1 = true
  rw [this]
  simp
theorem prbD_one {L0 : List (Int × Int)} {ps : List Rw} (h : (prbD L0 ps).1 = 0) {c : Int × Int} (hc : c ∈ L0) : prbD [c] ps = (0, wQs ps (natC c) ps.length) := by
  obtain ⟨h1, h2, h3, _⟩ := prbD_zero h
  have h4 := h2 (natC c) (List.mem_map_of_mem hc)
  unfold prbD
  rw [if_neg (by rw [chkD_one (chkD_each h1 c hc)]; simp)]
  unfold prbT
  rw [if_neg (by simp only [List.map_cons, List.map_nil, List.any_cons, List.any_nil, Bool.or_false, decide_eq_true_eq]; omega), if_neg (by rw [h3]; simp)]
  have e : sumWs ps ([c].map natC) ([c].map natC).length = 0 + wQs ps (natC c) ps.length := rfl
  rw [e, Rat.zero_add]
theorem range_each {L0 : List (Int × Int)} {ps : List Rw} (hok : ∀ r ∈ ps, r.Ok) (h : (prbD L0 ps).1 = 0) : ∀ c ∈ L0, probR (canR (wQs ps (natC c) ps.length)) = true := fun c hc => by
  obtain ⟨h1, h2, h3, _⟩ := prbD_zero h
  have hm := List.mem_map_of_mem (f := natC) hc
  have hcb := (chk_cnt h1 0).2 _ hm
  have h5 := bits_lt hcb (h2 _ hm)
  have hu := sumW_unit (q := qOf ps) (n := ps.length) (l := [natC c]) (fun d hd => by
    rw [List.mem_singleton] at hd
    rw [hd]
    exact ⟨hcb.2.2, h5.1, h5.2⟩) (qOf_unit hok h3) (fun s => by rw [cnt_cons, cnt_nil]; split <;> omega)
  have e : sumW (qOf ps) ps.length [natC c] = 0 + wQs ps (natC c) ps.length := rfl
  rw [e, Rat.zero_add] at hu
  exact prob_can hu.1 hu.2
theorem range_all {L0 : List (Int × Int)} {ps : List Rw} (hok : ∀ r ∈ ps, r.Ok) (h : (prbD L0 ps).1 = 0) : probR (canR (prbD L0 ps).2) = true := by
  obtain ⟨h1, h2, h3, h4⟩ := prbD_zero h
  have hu := sumW_unit (q := qOf ps) (n := ps.length) (l := L0.map natC) (fun d hd => by
    have hcb := (chk_cnt h1 0).2 _ hd
    have h5 := bits_lt hcb (h2 _ hd)
    exact ⟨hcb.2.2, h5.1, h5.2⟩) (qOf_unit hok h3) (fun s => (chk_cnt h1 s).1)
  rw [h4]
  have e : sumWs ps (L0.map natC) (L0.map natC).length = sumW (qOf ps) ps.length (L0.map natC) := by unfold sumWs; rw [List.take_length]
  rw [e]
  exact prob_can hu.1 hu.2
theorem chkD_len {L0 : List (Int × Int)} (h : chkD L0 = 0) : L0.length ≤ 1024 := by
  unfold chkD at h
  split at h
  · cases h
  · omega
theorem getD_mem {L0 : List (Int × Int)} {k : Nat} (h : k < L0.length) : L0.getD k default ∈ L0 := by
  have e : L0.getD k default = L0[k] := by simp [List.getD_eq_getElem?_getD, h]
  rw [e]
  exact List.getElem_mem h
theorem sum_step {L0 : List (Int × Int)} {ps : List Rw} {k : Nat} (h : k < L0.length) : sumWs ps (L0.map natC) (k + 1) = sumWs ps (L0.map natC) k + wQs ps (natC (L0.getD k default)) ps.length := by
  have e : L0.getD k default = L0[k] := by simp [List.getD_eq_getElem?_getD, h]
  rw [e, sumWs_succ (by rw [List.length_map]; exact h), List.getElem_map]
theorem sgn_zero : sgnR 0 = 0 := rfl
theorem cbs_one (w : World) (d : Int × Int) : CbsAt (w.alloc (.cells #[.int .i64 d.1, .int .i64 d.2] 55)) (.slice (some ⟨w.heap.size, 0, none⟩) 1 1) [d] :=
  ⟨_, _, rfl, ⟨by simp, fun h => by cases h⟩, by simp, fun i hi => ⟨_, _, rfl, by
    have e : i = 0 := by simp at hi; omega
    subst e
    exact range_two w _ _ _⟩⟩
end Go.Proofs.YtbkchheikkbebaaGreatDoor
