import Derived.Test.YtpaedhlacbpmpaaGreatDoorPX1
import Derived.Test.YtpaedhlacbpmpaaGreatDoorPX2
import Derived.Test.YtpaedhlacbpmpaaGreatDoorPX3
import Derived.Test.YtpaedhlacbpmpaaGreatDoorPX4
import Derived.Test.YtpaedhlacbpmpaaGreatDoorPX5
import Derived.Test.YtpaedhlacbpmpaaGreatDoorPX6
import Derived.Test.YtpaedhlacbpmpaaGreatDoorPX7
import Derived.Test.YtpaedhlacbpmpaaGreatDoorPV8
/-
  Theorems of other texts that the pruned base lacks. Written by extract.py.
-/
namespace Go.Proofs.YtpaedhlacbpmpaaGreatDoor
open Go.RowKit

theorem RatsAt.kept {w w' : World} {v : Value} {ps : List Rw} (h : RatsAt w v ps) (hk : Kept w w') : RatsAt w' v ps := by
  obtain ⟨a, c, h1, h2, h3, h4⟩ := h
  exact ⟨a, c, h1, h2, h3, fun i hi => let ⟨b, o, u1, u2, h5, h6, h7, h8⟩ := h4 i hi; ⟨b, o, u1, u2, h5, range_same h6 hk, h7.kept hk, h8.kept hk⟩⟩
theorem RatsRaw.small {w : World} {v : Value} {ps : List Rw} (h : RatsRaw w v ps) (hs : ∀ r ∈ ps, r.Short 1099511627776) : RatsAt w v ps := by
  obtain ⟨a, c, h1, h2, h3, h4⟩ := h
  exact ⟨a, c, h1, h2, h3, fun i hi => let ⟨b, o, u1, u2, h5, h6, h7, h8⟩ := h4 i hi; ⟨b, o, u1, u2, h5, h6, h7.small (hs _ (List.getElem_mem _)).1, h8.small (hs _ (List.getElem_mem _)).2⟩⟩
theorem elems_lt {s i : Nat} (h : i ∈ elemsK s) : i < 24 ∧ s.testBit i = true := by
  have := List.mem_filter.1 h
  exact ⟨by simpa using this.1, this.2⟩
theorem last_fold (l : List Nat) (x : Nat) : ∀ a : Int, (l ++ [x]).foldl (fun (_ : Int) (i : Nat) => (i : Int)) a = (x : Int) := by
  intro a; rw [List.foldl_append]; rfl
theorem last_elems (s : Nat) : ∀ n, n ≤ 24 → ((List.range n).filter fun i => s.testBit i).foldl (fun (_ : Int) (i : Nat) => (i : Int)) (-1) = (Lib.bitLen (s % 2 ^ n) : Int) - 1 := by
  intro n
  induction n with
  | zero => intro _; simp [Nat.mod_one]; rfl
  | succ n ih =>
    intro hn
    have ih := ih (by omega)
    rw [List.range_succ, List.filter_append, bit_step]
    have hb : s / 2 ^ n % 2 = if s.testBit n then 1 else 0 := by
      rw [Nat.testBit_eq_decide_div_mod_eq]
      have : s / 2 ^ n % 2 < 2 := Nat.mod_lt _ (by omega)
      by_cases h : s / 2 ^ n % 2 = 1
      · simp [h]
      · simp [h]; omega
    cases ht : s.testBit n with
    | false =>
      rw [ht] at hb
      simp only [List.filter_cons, ht, List.filter_nil, Bool.false_eq_true, if_false, List.append_nil] at hb ⊢
      rw [hb, Nat.zero_mul, Nat.add_zero]
      exact ih
    | true =>
      rw [ht] at hb
      simp only [List.filter_cons, ht, List.filter_nil, if_true] at hb ⊢
      rw [last_fold, hb, Nat.one_mul]
      have h1 : s % 2 ^ n < 2 ^ n := Nat.mod_lt _ (Nat.two_pow_pos n)
      rw [bitLen_topA (n := n) (by omega) (by rw [Nat.pow_succ]; omega) (by omega)]
      omega
theorem last_elem {s : Nat} (hs : s < 16777216) : (elemsK s).foldl (fun (_ : Int) (i : Nat) => (i : Int)) (-1) = gtK s := by
  have h := last_elems s 24 (Nat.le_refl _)
  have e : (2 : Nat) ^ 24 = 16777216 := rfl
  rw [e, Nat.mod_eq_of_lt hs] at h
  exact h
theorem bit_gt {s i : Nat} (hs : s < 16777216) (h : s.testBit i = true) : (i : Int) ≤ gtK s := by
  unfold gtK
  have h1 : 2 ^ i ≤ s := Nat.ge_two_pow_of_testBit h
  have h64 : s < 2 ^ 64 := Nat.lt_of_lt_of_le hs (by decide)
  have h4 := bitLen_lt h64
  have h5 : i < Lib.bitLen s := (Nat.pow_lt_pow_iff_right (by omega : 1 < 2)).1 (Nat.lt_of_le_of_lt h1 h4)
  omega
theorem prodQ_high {s : Nat} {ps : List Rw} {n m : Nat} (h : ∀ i, n ≤ i → s.testBit i = false) (hm : n ≤ m) : prodQ s ps m = prodQ s ps n := by
  induction m with
  | zero => rw [show n = 0 by omega]
  | succ m ih =>
    by_cases he : n = m + 1
    · rw [he]
    · rw [prodQ_succ, if_neg (by rw [h m (by omega)]; simp)]
      exact ih (by omega)
theorem prodQ_elems (s : Nat) (ps : List Rw) : ∀ n, ((List.range n).filter fun i => s.testBit i).foldl (fun (q : Rat) (i : Nat) => q * ratOf (ps.getD i default)) 1 = prodQ s ps n := by
  intro n
  induction n with
  | zero => rfl
  | succ n ih =>
    rw [elems_step, List.foldl_append, ih, prodQ_succ]
    cases h : s.testBit n <;> rfl
theorem IntsAt.apart {w w' : World} {g : Nat} {v : Value} {xs : List Int} {row : List Value} (h : IntsAt w v xs) (hr : FixAt w g row) (hn : ∀ k x, Value.int k x ∉ row) (ho : OnlyAt g w w') : IntsAt w' v xs := by
  obtain ⟨a, c, h1, h2, h3, h5⟩ := h
  refine ⟨a, c, h1, h2, h3, fun i hi => ?_⟩
  obtain ⟨b, o, h6, h7⟩ := h5 i hi
  refine ⟨b, o, h6, ?_⟩
  have hne : b ≠ g := fun e => by
    subst e
    exact hn _ _ (hr.only h7)
  have hlt : b < w.heap.size := World.block_lt_of_cell? w _ h7
  have := ho.block b hlt hne
  simp only [World.cell?, this] at h7 ⊢
  exact h7
/-- Ints are not touched by a store into a fraction's cells. -/
theorem RatCell.ints {w : World} {g : Nat} {r : Rw} (h : RatCell w g r) {v : Value} {xs : List Int} (hv : IntsAt w v xs) (u0 u1 u2 : Value) : IntsAt (((w.setCell ⟨g, 0, none⟩ u0).setCell ⟨g, 1, none⟩ u1).setCell ⟨g, 2, none⟩ u2) v xs := by
  obtain ⟨a3, c3, a4, c4, h3, h4, _, _⟩ := h
  exact hv.apart h4 (by simp) ((((OnlyAt.refl g w).store 0 u0).store 1 u1).store 2 u2)
theorem prodE_succ {L : List Nat} (ps : List Rw) {j : Nat} (h : j < L.length) : prodE L ps (j + 1) = prodE L ps j * ratOf (ps.getD L[j] default) := by
  unfold prodE
  rw [List.take_succ_eq_append_getElem h, List.foldl_append]
  rfl
theorem prodE_all {s : Nat} {ps : List Rw} (hs : s < 16777216) (hg : gtK s < (ps.length : Int)) : prodE (elemsK s) ps (elemsK s).length = prodQ s ps ps.length := by
  have h0 : ∀ i, Lib.bitLen s ≤ i → s.testBit i = false := fun i hi => by
    cases h : s.testBit i with
    | false => rfl
    | true =>
      exfalso
      have := bit_gt hs h
      unfold gtK at this
      omega
  have h24 : Lib.bitLen s ≤ 24 := Lib.bitLen_le s 24 (by omega) (by rw [show (2 : Nat) ^ 24 = 16777216 from rfl]; exact hs)
  have hl : Lib.bitLen s ≤ ps.length := by unfold gtK at hg; omega
  unfold prodE
  rw [List.take_length]
  unfold elemsK
  rw [prodQ_elems, prodQ_high h0 h24, prodQ_high h0 hl]
end Go.Proofs.YtpaedhlacbpmpaaGreatDoor
