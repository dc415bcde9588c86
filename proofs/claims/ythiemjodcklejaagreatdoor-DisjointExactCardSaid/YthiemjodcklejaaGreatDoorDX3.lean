import Derived.WalkKit
import Derived.WalkSpells
import Derived.WalkLawsBesides
import Derived.Deep.QuietTactic
import Derived.BigQuiet
import Derived.Lib.Hide
import Derived.Shelf.Abstract
import Derived.Deep.RegionWith
import Derived.Laws.AppendOwnNone
import Derived.Lib.AppendZerosOnto
import Derived.Lib.SliceRun
import Derived.Lib.SlicesCompact
import Derived.Shelf.SlSortCmp.NoneTotal
import Derived.Maps.OwnOps
import Derived.Maps.OwnSet
import Derived.Maps.Views
import Derived.Deep.MidRow
import Derived.Deep.RegionHeld3
import Derived.Deep.AppendLies
import Derived.Deep.RegionLaw
import Derived.IntWalk
import Derived.StillTailTactics
import Derived.RegionTactic
import Derived.BigRegion
import Derived.ChangeAlike
import Derived.Test.YthiemjodcklejaaGreatDoorDX2
import Derived.Test.YthiemjodcklejaaGreatDoorRows
import Derived.Sort.LotD2
import Derived.Sort.LotA
import Derived.Shelf.SlSortCmp.PdqK
import Derived.Test.YthiemjodcklejaaGreatDoorProg
import Derived.Deep.DeepCutAuto
/-
  Walks: the rows of topdown as masks: has, with, without, part, size.
-/
namespace Go.Proofs.YthiemjodcklejaaGreatDoor
open Go.RowKit

/-- The words of a row. -/
def evW (c : Nat) : Nat := c % 16777216
def loW (c : Nat) : Nat := c / 16777216 % 18446744073709551616
def hiW (c : Nat) : Nat := c / 309485009821345068724781056
theorem evW_bit (c i : Nat) : (evW c).testBit i = (decide (i < 24) && c.testBit i) := by
  unfold evW; rw [show (16777216 : Nat) = 2 ^ 24 from rfl, Nat.testBit_mod_two_pow]
theorem loW_bit (c i : Nat) : (loW c).testBit i = (decide (i < 64) && c.testBit (24 + i)) := by
  unfold loW
  rw [show (18446744073709551616 : Nat) = 2 ^ 64 from rfl, show (16777216 : Nat) = 2 ^ 24 from rfl, Nat.testBit_mod_two_pow, Nat.testBit_div_two_pow, Nat.add_comm]
theorem hiW_bit (c i : Nat) : (hiW c).testBit i = c.testBit (88 + i) := by
  unfold hiW
  rw [show (309485009821345068724781056 : Nat) = 2 ^ 88 from rfl, Nat.testBit_div_two_pow, Nat.add_comm]
theorem evW_lt (c : Nat) : evW c < 16777216 := Nat.mod_lt _ (by decide)
theorem loW_lt (c : Nat) : loW c < 18446744073709551616 := Nat.mod_lt _ (by decide)
theorem hiW_lt {c : Nat} (h : RowLt 152 c) : hiW c < 18446744073709551616 := by
  have := rowLt_num h
  unfold hiW
  refine Nat.div_lt_of_lt_mul ?_
  exact Nat.lt_of_lt_of_le this (by decide)
abbrev rowV (c : Nat) : Value := .agg #[.int .i64 (evW c), .int .u64 (loW c), .int .u64 (hiW c)]
theorem bit_or_pow (c m i : Nat) : (c ||| 2 ^ m).testBit i = (c.testBit i || decide (m = i)) := by
  rw [Nat.testBit_or, Nat.testBit_two_pow]
theorem ev_with {c a : Nat} (h : a < 24) : evW (c ||| 2 ^ a) = evW c ||| 2 ^ a ∧ loW (c ||| 2 ^ a) = loW c ∧ hiW (c ||| 2 ^ a) = hiW c := by
  refine ⟨?_, ?_, ?_⟩ <;> apply Nat.eq_of_testBit_eq <;> intro i
  · rw [evW_bit, bit_or_pow, bit_or_pow, evW_bit]
    by_cases h1 : i < 24
    · simp [h1]
    · simp [h1]; omega
  · rw [loW_bit, bit_or_pow, loW_bit]
    by_cases h1 : i < 64
    · simp [h1]; omega
    · simp [h1]
  · rw [hiW_bit, bit_or_pow, hiW_bit]
    simp; omega
theorem lo_with {c j : Nat} (h : j < 64) : evW (c ||| 2 ^ (24 + j)) = evW c ∧ loW (c ||| 2 ^ (24 + j)) = loW c ||| 2 ^ j ∧ hiW (c ||| 2 ^ (24 + j)) = hiW c := by
  refine ⟨?_, ?_, ?_⟩ <;> apply Nat.eq_of_testBit_eq <;> intro i
  · rw [evW_bit, bit_or_pow, evW_bit]
    by_cases h1 : i < 24
    · simp [h1]; omega
    · simp [h1]
  · rw [loW_bit, bit_or_pow, bit_or_pow, loW_bit]
    by_cases h1 : i < 64
    · simp [h1]
    · simp [h1]; omega
  · rw [hiW_bit, bit_or_pow, hiW_bit]
    simp; omega
theorem hi_with {c j : Nat} : evW (c ||| 2 ^ (24 + (64 + j))) = evW c ∧ loW (c ||| 2 ^ (24 + (64 + j))) = loW c ∧ hiW (c ||| 2 ^ (24 + (64 + j))) = hiW c ||| 2 ^ j := by
  refine ⟨?_, ?_, ?_⟩ <;> apply Nat.eq_of_testBit_eq <;> intro i
  · rw [evW_bit, bit_or_pow, evW_bit]
    by_cases h1 : i < 24
    · simp [h1]; omega
    · simp [h1]
  · rw [loW_bit, bit_or_pow, loW_bit]
    by_cases h1 : i < 64
    · simp [h1]; omega
    · simp [h1]
  · rw [hiW_bit, bit_or_pow, bit_or_pow, hiW_bit]
    congr 1
    rw [decide_eq_decide]; omega
theorem bit_sd_pow (c m i : Nat) : (sdiff c (2 ^ m)).testBit i = (c.testBit i && !decide (m = i)) := by
  rw [sdiff_bit, Nat.testBit_two_pow]
theorem lo_without {c j : Nat} (h : j < 64) : evW (sdiff c (2 ^ (24 + j))) = evW c ∧ loW (sdiff c (2 ^ (24 + j))) = sdiff (loW c) (2 ^ j) ∧ hiW (sdiff c (2 ^ (24 + j))) = hiW c := by
  refine ⟨?_, ?_, ?_⟩ <;> apply Nat.eq_of_testBit_eq <;> intro i
  · rw [evW_bit, bit_sd_pow, evW_bit]
    by_cases h1 : i < 24
    · simp [h1]; omega
    · simp [h1]
  · rw [loW_bit, bit_sd_pow, bit_sd_pow, loW_bit]
    by_cases h1 : i < 64
    · simp [h1]
    · simp [h1]
  · rw [hiW_bit, bit_sd_pow, hiW_bit]
    simp; omega
theorem hi_without {c j : Nat} : evW (sdiff c (2 ^ (24 + (64 + j)))) = evW c ∧ loW (sdiff c (2 ^ (24 + (64 + j)))) = loW c ∧ hiW (sdiff c (2 ^ (24 + (64 + j)))) = sdiff (hiW c) (2 ^ j) := by
  refine ⟨?_, ?_, ?_⟩ <;> apply Nat.eq_of_testBit_eq <;> intro i
  · rw [evW_bit, bit_sd_pow, evW_bit]
    by_cases h1 : i < 24
    · simp [h1]; omega
    · simp [h1]
  · rw [loW_bit, bit_sd_pow, loW_bit]
    by_cases h1 : i < 64
    · simp [h1]; omega
    · simp [h1]
  · rw [hiW_bit, bit_sd_pow, bit_sd_pow, hiW_bit]
    congr 2
    rw [decide_eq_decide]; omega
theorem rhas_any {c : Nat} (hc : RowLt 152 c) (i : Nat) (hi : i < 128) (w : World) : Calls Tryz.prog 144 #[rowV c, .int .i64 i] w fun e w' => e = .returned (.bool (c.testBit (24 + i))) ∧ Kept w w' := by
  by_cases h : i < 64
  · have := has_lo (evW c) (loW c) (hiW c) i (loW_lt c) h w
    rw [loW_bit, decide_eq_true h, Bool.true_and] at this
    exact this
  · obtain ⟨j, rfl⟩ : ∃ j, i = 64 + j := ⟨i - 64, by omega⟩
    have := has_hi (evW c) (loW c) (hiW c) j (hiW_lt hc) (by omega) w
    rw [hiW_bit, show 88 + j = 24 + (64 + j) by omega] at this
    exact this
theorem rwith_any {c : Nat} (hc : RowLt 152 c) (V : Nat) (v : Value) (T : Int) (hs : ∃ a n c, v = .slice a n c) (hV : V ≤ 24) (a : Int) (ha : 0 ≤ a ∧ a < (V : Int) + 128) (w : World) :
    Calls Tryz.prog 142 #[rowV c, .agg #[.int .i64 V, v, .int .i64 T], .int .i64 a] w fun e w' => e = .returned (rowV (withC V c a)) ∧ Kept w w' := by
  obtain ⟨A, rfl⟩ := Int.eq_ofNat_of_zero_le ha.1
  unfold withC cond
  by_cases h : A < V
  · rw [if_pos (by omega), Int.toNat_natCast]
    have := with_ev (evW c) (loW c) (hiW c) A V v T hs (evW_lt c) hV h w
    obtain ⟨e1, e2, e3⟩ := ev_with (c := c) (a := A) (by omega)
    unfold rowV
    rw [e1, e2, e3]
    exact this
  · rw [if_neg (by omega)]
    obtain ⟨i, rfl⟩ : ∃ i, A = V + i := ⟨A - V, by omega⟩
    rw [show (((V + i : Nat) : Int) - (V : Int)).toNat = i by omega]
    unfold rowV
    by_cases h6 : i < 64
    · obtain ⟨e1, e2, e3⟩ := lo_with (c := c) (j := i) h6
      rw [e1, e2, e3]
      exact with_lo (evW c) (loW c) (hiW c) i V v T hs (loW_lt c) hV h6 w _ rfl
    · obtain ⟨j, rfl⟩ : ∃ j, i = 64 + j := ⟨i - 64, by omega⟩
      obtain ⟨e1, e2, e3⟩ := hi_with (c := c) (j := j)
      rw [e1, e2, e3]
      exact with_hi (evW c) (loW c) (hiW c) j V v T hs (hiW_lt hc) hV (by omega) w _ rfl
theorem rwithout_any {c : Nat} (hc : RowLt 152 c) (i : Nat) (hi : i < 128) (w : World) : Calls Tryz.prog 201 #[rowV c, .int .i64 i] w fun e w' => e = .returned (rowV (sdiff c (2 ^ (24 + i)))) ∧ Kept w w' := by
  unfold rowV
  by_cases h6 : i < 64
  · obtain ⟨e1, e2, e3⟩ := lo_without (c := c) (j := i) h6
    rw [e1, e2, e3]
    exact without_lo (evW c) (loW c) (hiW c) i (loW_lt c) h6 w _ rfl
  · obtain ⟨j, rfl⟩ : ∃ j, i = 64 + j := ⟨i - 64, by omega⟩
    obtain ⟨e1, e2, e3⟩ := hi_without (c := c) (j := j)
    rw [e1, e2, e3]
    exact without_hi (evW c) (loW c) (hiW c) j (hiW_lt hc) (by omega) w _ rfl
theorem row_join (c : Nat) : c = 2 ^ 88 * hiW c + (2 ^ 24 * loW c + evW c) := by
  unfold hiW loW evW
  have h1 := Nat.div_add_mod c 16777216
  have h2 := Nat.div_add_mod (c / 16777216) 18446744073709551616
  rw [Nat.div_div_eq_div_mul] at h2
  rw [show (309485009821345068724781056 : Nat) = 16777216 * 18446744073709551616 from rfl, show (2 : Nat) ^ 88 = 16777216 * 18446744073709551616 from rfl, show (2 : Nat) ^ 24 = 16777216 from rfl]
  generalize c / (16777216 * 18446744073709551616) = h at *
  generalize c / 16777216 % 18446744073709551616 = l at *
  omega
theorem pc_split : ∀ k n, n < 2 ^ k → ∀ h, pc (2 ^ k * h + n) = pc n + pc h := by
  intro k
  induction k with
  | zero => intro n hn h; have : n = 0 := by simpa using hn
            subst this; rw [pc_zero]; simp
  | succ k ih =>
    intro n hn h
    rw [pc_one, pc_one n]
    have e1 : (2 ^ (k + 1) * h + n) % 2 = n % 2 := by rw [Nat.pow_succ, Nat.mul_comm (2 ^ k) 2, Nat.mul_assoc]; omega
    have e2 : (2 ^ (k + 1) * h + n) / 2 = 2 ^ k * h + n / 2 := by rw [Nat.pow_succ, Nat.mul_comm (2 ^ k) 2, Nat.mul_assoc]; omega
    rw [e1, e2, ih (n / 2) (by rw [Nat.pow_succ] at hn; omega) h]
    omega
theorem pc_row (c : Nat) : pc c = pc (evW c) + pc (loW c) + pc (hiW c) := by
  have h := row_join c
  have h1 := evW_lt c
  have h2 := loW_lt c
  have e1 : 2 ^ 24 * loW c + evW c < 2 ^ 88 := by
    rw [show (2 : Nat) ^ 24 = 16777216 from rfl, show (2 : Nat) ^ 88 = 309485009821345068724781056 from rfl]; omega
  conv => lhs; rw [h]
  rw [pc_split 88 _ e1, pc_split 24 _ (by rw [show (2 : Nat) ^ 24 = 16777216 from rfl]; exact h1)]
theorem sub_row (a b : Nat) : subN a b = (subN (evW a) (evW b) && (subN (loW a) (loW b) && subN (hiW a) (hiW b))) := by
  rw [Bool.eq_iff_iff, Bool.and_eq_true, Bool.and_eq_true, subN_iff, subN_iff, subN_iff, subN_iff]
  constructor
  · intro h
    refine ⟨fun i hi => ?_, fun i hi => ?_, fun i hi => ?_⟩
    · rw [evW_bit] at hi ⊢; simp at hi ⊢; exact ⟨hi.1, h i hi.2⟩
    · rw [loW_bit] at hi ⊢; simp at hi ⊢; exact ⟨hi.1, h _ hi.2⟩
    · rw [hiW_bit] at hi ⊢; exact h _ hi
  · rintro ⟨h1, h2, h3⟩ i hi
    by_cases c1 : i < 24
    · have := h1 i (by rw [evW_bit]; simp [c1, hi])
      rw [evW_bit] at this; simp at this; exact this.2
    · by_cases c2 : i < 88
      · have := h2 (i - 24) (by rw [loW_bit, show 24 + (i - 24) = i by omega]; simp [hi]; omega)
        rw [loW_bit, show 24 + (i - 24) = i by omega] at this; simp at this; exact this.2
      · have := h3 (i - 88) (by rw [hiW_bit, show 88 + (i - 88) = i by omega]; exact hi)
        rw [hiW_bit, show 88 + (i - 88) = i by omega] at this; exact this
theorem pc_lt (n : Nat) : ∀ c, c < 2 ^ n → pc c ≤ n := by
  induction n with
  | zero => intro c h; have : c = 0 := by simpa using h
            subst this; rw [pc_zero]; omega
  | succ n ih =>
    intro c h
    rw [pc_one]
    have := ih (c / 2) (by rw [Nat.pow_succ] at h; omega)
    omega
theorem sub_i64 (a b : Nat) (ha : a < 9223372036854775808) (hb : b < 9223372036854775808) : (bits .andNot .i64 (a : Int) (b : Int) == 0) = subN a b := by
  rw [andNot_i64 a b ha hb]
  unfold subN
  rw [Bool.eq_iff_iff]; simp
theorem sub_u64 (a b : Nat) (ha : a < 18446744073709551616) (hb : b < 18446744073709551616) : (bits .andNot .u64 (a : Int) (b : Int) == 0) = subN a b := by
  rw [andNot_u64 a b ha hb]
  unfold subN
  rw [Bool.eq_iff_iff]; simp
theorem rpart_any {a b : Nat} (ha : RowLt 152 a) (hb : RowLt 152 b) (w : World) : Calls Tryz.prog 209 #[rowV a, rowV b] w fun e w' => e = .returned (.bool (subN a b)) ∧ ∃ C O, w' = (w.alloc C).alloc O := by
  have b1 := sub_i64 (evW a) (evW b) (by have := evW_lt a; omega) (by have := evW_lt b; omega)
  have b2 := sub_u64 (loW a) (loW b) (loW_lt a) (loW_lt b)
  have b3 := sub_u64 (hiW a) (hiW b) (hiW_lt ha) (hiW_lt hb)
  rw [sub_row]
  generalize subN (evW a) (evW b) = x1 at *
  generalize subN (loW a) (loW b) = x2 at *
  generalize subN (hiW a) (hiW b) = x3 at *
  unfold rowV
  generalize evW a = ea at *
  generalize evW b = eb at *
  generalize loW a = la at *
  generalize loW b = lb at *
  generalize hiW a = za at *
  generalize hiW b = zb at *
  clear ha hb
  cases x1 with
  | false =>
    go_enter Tryz.func209, Tryz.ntmps209
    go_wp2
    go_ret
    exact ⟨rfl, _, _, rfl⟩
  | true =>
    cases x2 with
    | false =>
      go_enter Tryz.func209, Tryz.ntmps209
      go_wp2
      go_ret
      exact ⟨rfl, _, _, rfl⟩
    | true =>
      go_enter Tryz.func209, Tryz.ntmps209
      go_wp2
      go_ret
      exact ⟨by cases x3 <;> rfl, _, _, rfl⟩
theorem rsize_any {c : Nat} (hc : RowLt 152 c) (w : World) : Calls Tryz.prog 206 #[rowV c] w fun e w' => e = .returned (.int .i64 (pc c)) ∧ ∃ C n, w' = (w.alloc C).drewN n := by
  have h1 : ∀ W, Calls Tryz.prog 151 #[.int .i64 (evW c)] W fun e w' => e = .returned (.int .i64 (pc (evW c))) ∧ w' = W := fun W => (count_any (evW_lt c) W).mono fun _ _ h => ⟨h.1, h.2.symm⟩
  have h2 : ∀ W, Calls Tryz.prog 247 #[.int .u64 (loW c)] W fun e w' => e = .returned (.int .i64 (pc (loW c))) ∧ w' = W := fun W => (ones64_any _ W).mono fun _ _ h => ⟨by rw [h.1, pcS_word _ (loW_lt c)], h.2.symm⟩
  have h3 : ∀ W, Calls Tryz.prog 247 #[.int .u64 (hiW c)] W fun e w' => e = .returned (.int .i64 (pc (hiW c))) ∧ w' = W := fun W => (ones64_any _ W).mono fun _ _ h => ⟨by rw [h.1, pcS_word _ (hiW_lt hc)], h.2.symm⟩
  have e1 := pc_lt 24 (evW c) (evW_lt c)
  have e2 := pc_lt 64 (loW c) (loW_lt c)
  have e3 := pc_lt 64 (hiW c) (hiW_lt hc)
  rw [pc_row c]
  unfold rowV
  generalize pc (evW c) = p1 at *
  generalize pc (loW c) = p2 at *
  generalize pc (hiW c) = p3 at *
  generalize evW c = ea at *
  generalize loW c = la at *
  generalize hiW c = za at *
  have H1 := Lib.hid h1
  have H2 := Lib.hid h2
  have H3 := Lib.hid h3
  have w1 : IntKind.i64.wrap ((p1 : Int) + (p2 : Int)) = (p1 : Int) + (p2 : Int) := by rw [IntKind.wrap_i64]; omega
  have w2 : IntKind.i64.wrap ((p1 : Int) + (p2 : Int) + (p3 : Int)) = (p1 : Int) + (p2 : Int) + (p3 : Int) := by rw [IntKind.wrap_i64]; omega
  clear h1 h2 h3 hc
  go_enter Tryz.func206, Tryz.ntmps206
  go_wp2
  go_quiet ((first | (go_at_call 151; exact Calls.quiet_of_same (H1.out _)) | (go_at_call 247; (with_reducible exact Calls.quiet_of_same (H2.out _))) | (go_at_call 247; (with_reducible exact Calls.quiet_of_same (H3.out _)))))
  go_wp2
  go_ret
  exact ⟨by simp, _, _, rfl⟩
end Go.Proofs.YthiemjodcklejaaGreatDoor

/-
  Plain: the stable merge of slices.SortStableFunc on arrays: what swapRange, rotate and symMerge lay; that a merge of sorted parts is sorted.
-/
namespace Go.Proofs.YthiemjodcklejaaGreatDoor
open Go.Sort

section
variable {α : Type}
def swF (a b n : Nat) (f : Nat → α) (x : Nat) : α := if a ≤ x ∧ x < a + n then f (x + (b - a)) else if b ≤ x ∧ x < b + n then f (x - (b - a)) else f x
def rotF (a m b : Nat) (f : Nat → α) (x : Nat) : α := if a ≤ x ∧ x < a + (b - m) then f (x + (m - a)) else if a + (b - m) ≤ x ∧ x < b then f (x - (b - m)) else f x
theorem swF_zero (a b : Nat) (f : Nat → α) (x : Nat) : swF a b 0 f x = f x := by
  unfold swF; rw [if_neg (by omega), if_neg (by omega)]
theorem swF_step (a b n : Nat) (f : Nat → α) (h : a + n < b) (x : Nat) :
    (if x = b + n then swF a b n f (a + n) else if x = a + n then swF a b n f (b + n) else swF a b n f x) = swF a b (n + 1) f x := by
  unfold swF
  by_cases h1 : x = b + n
  · subst h1
    rw [if_pos rfl, if_neg (by omega), if_neg (by omega), if_neg (by omega), if_pos (by omega)]
    congr 1; omega
  · rw [if_neg h1]
    by_cases h2 : x = a + n
    · subst h2
      rw [if_pos rfl, if_neg (by omega), if_neg (by omega), if_pos (by omega)]
      congr 1; omega
    · rw [if_neg h2]
      by_cases h3 : a ≤ x ∧ x < a + n
      · rw [if_pos h3, if_pos (by omega)]
      · rw [if_neg h3]
        by_cases h4 : b ≤ x ∧ x < b + n
        · rw [if_pos h4, if_neg (by omega), if_pos (by omega)]
        · rw [if_neg h4, if_neg (by omega), if_neg (by omega)]
theorem rot_gt (m i j : Nat) (hi : i ≤ m) (hj : j < i) (f : Nat → α) (x : Nat) : rotF (m - (i - j)) m (m + j) (swF (m - i) m j f) x = rotF (m - i) m (m + j) f x := by
  unfold rotF swF
  repeat' split
  all_goals first | (exfalso; omega) | rfl | (congr 1 <;> omega)
theorem rot_lt (m i j : Nat) (hi : i ≤ m) (hj : i < j) (f : Nat → α) (x : Nat) : rotF (m - i) m (m + (j - i)) (swF (m - i) (m + j - i) i f) x = rotF (m - i) m (m + j) f x := by
  unfold rotF swF
  repeat' split
  all_goals first | (exfalso; omega) | rfl | (congr 1 <;> omega)
theorem rot_eq (m i : Nat) (hi : i ≤ m) (f : Nat → α) (x : Nat) : swF (m - i) m i f x = rotF (m - i) m (m + i) f x := by
  unfold rotF swF
  repeat' split
  all_goals first | (exfalso; omega) | rfl | (congr 1 <;> omega)
theorem rot_up (a k : Nat) (h : a ≤ k) (f : Nat → α) (x : Nat) :
    (if x = k + 1 then rotF a (a + 1) (k + 1) f k else if x = k then rotF a (a + 1) (k + 1) f (k + 1) else rotF a (a + 1) (k + 1) f x) = rotF a (a + 1) (k + 2) f x := by
  unfold rotF
  repeat' split
  all_goals first | (exfalso; omega) | rfl | (congr 1 <;> omega)
theorem rot_down (k m : Nat) (h : k + 1 ≤ m) (f : Nat → α) (x : Nat) :
    (if x = k then rotF (k + 1) m (m + 1) f (k + 1) else if x = k + 1 then rotF (k + 1) m (m + 1) f k else rotF (k + 1) m (m + 1) f x) = rotF k m (m + 1) f x := by
  unfold rotF
  repeat' split
  all_goals first | (exfalso; omega) | rfl | (congr 1 <;> omega)
theorem rot_left (a b : Nat) (f : Nat → α) (x : Nat) : rotF a a b f x = f x := by
  unfold rotF
  repeat' split
  all_goals first | (exfalso; omega) | rfl | (congr 1 <;> omega)
theorem rot_right (a b : Nat) (f : Nat → α) (x : Nat) : rotF a b b f x = f x := by
  unfold rotF
  repeat' split
  all_goals first | (exfalso; omega) | rfl | (congr 1 <;> omega)
end
section
variable {α : Type} [Inhabited α] {lt : α → α → Bool}
def atA (d : Array α) (x : Nat) : α := d[x]!
/-- d' is d with the blocks [a, m) and [m, b) in the other order. -/
def Rot (a m b : Nat) (d d' : Array α) : Prop := PermIn a b d d' ∧ ∀ x, d'[x]! = rotF a m b (atA d) x
def Swd (a b n : Nat) (d d' : Array α) : Prop := PermIn a (b + n) d d' ∧ ∀ x, d'[x]! = swF a b n (atA d) x
theorem Swd.start (a b : Nat) (d : Array α) : Swd a b 0 d d := ⟨permIn_refl _ _ _, fun x => (swF_zero a b (atA d) x).symm⟩
theorem Swd.step {a b n : Nat} {d d' : Array α} (h : Swd a b n d d') (h1 : a + n < b) (h2 : b + n < d.size) : Swd a b (n + 1) d (swp d' (a + n) (b + n)) := by
  have hs : d'.size = d.size := h.1.1
  refine ⟨permIn_trans _ _ _ _ _ (permIn_mono _ _ _ _ _ _ (Nat.le_refl _) (by omega) (by omega) h.1) (swp_permIn _ _ _ _ _ (by omega) (by omega) (by omega) (by omega) (by omega)), fun x => ?_⟩
  rw [Go.Sort.swp_get d' (by omega) (by omega), ← swF_step a b n (atA d) h1 x, h.2, h.2, h.2]
/-- rotate's loop: what is still to be turned. -/
def RotTo (a m b : Nat) (d : Array α) (i j : Nat) (dk : Array α) : Prop := PermIn a b d dk ∧ (∀ x, rotF (m - i) m (m + j) (atA dk) x = rotF a m b (atA d) x) ∧ a ≤ m - i ∧ i ≤ m ∧ m + j ≤ b
theorem RotTo.start {a m b : Nat} (d : Array α) (h1 : a ≤ m) (h2 : m ≤ b) : RotTo a m b d (m - a) (b - m) d :=
  ⟨permIn_refl _ _ _, fun x => by rw [show m - (m - a) = a by omega, show m + (b - m) = b by omega], by omega, by omega, by omega⟩
theorem RotTo.right {a m b i j : Nat} {d dk dn : Array α} (h : RotTo a m b d i j dk) (hb : b ≤ d.size) (hj : j < i) (hs : Swd (m - i) m j dk dn) : RotTo a m b d (i - j) j dn := by
  obtain ⟨h1, h2, h3, h4, h5⟩ := h
  refine ⟨permIn_trans _ _ _ _ _ h1 (permIn_mono _ _ _ _ _ _ h3 h5 (by rw [h1.1]; exact hb) hs.1), fun x => ?_, by omega, by omega, h5⟩
  rw [← h2, ← rot_gt m i j h4 hj (atA dk) x]
  have e : atA dn = swF (m - i) m j (atA dk) := funext hs.2
  rw [e]
theorem RotTo.left {a m b i j : Nat} {d dk dn : Array α} (h : RotTo a m b d i j dk) (hb : b ≤ d.size) (hj : i < j) (hs : Swd (m - i) (m + j - i) i dk dn) : RotTo a m b d i (j - i) dn := by
  obtain ⟨h1, h2, h3, h4, h5⟩ := h
  refine ⟨permIn_trans _ _ _ _ _ h1 (permIn_mono _ _ _ _ _ _ h3 (by omega) (by rw [h1.1]; exact hb) hs.1), fun x => ?_, h3, h4, by omega⟩
  rw [← h2, ← rot_lt m i j h4 hj (atA dk) x]
  have e : atA dn = swF (m - i) (m + j - i) i (atA dk) := funext hs.2
  rw [e]
theorem RotTo.done {a m b i : Nat} {d dk dn : Array α} (h : RotTo a m b d i i dk) (hb : b ≤ d.size) (hs : Swd (m - i) m i dk dn) : Rot a m b d dn := by
  obtain ⟨h1, h2, h3, h4, h5⟩ := h
  refine ⟨permIn_trans _ _ _ _ _ h1 (permIn_mono _ _ _ _ _ _ h3 h5 (by rw [h1.1]; exact hb) hs.1), fun x => ?_⟩
  rw [← h2, ← rot_eq m i h4 (atA dk) x]
  exact hs.2 x
theorem Rot.one (a : Nat) (d : Array α) : Rot a (a + 1) (a + 1) d d := ⟨permIn_refl _ _ _, fun x => (rot_right a (a + 1) (atA d) x).symm⟩
theorem Rot.up {a k : Nat} {d d' : Array α} (h : Rot a (a + 1) (k + 1) d d') (hk : a ≤ k) (hb : k + 1 < d.size) : Rot a (a + 1) (k + 2) d (swp d' k (k + 1)) := by
  have hs : d'.size = d.size := h.1.1
  refine ⟨permIn_trans _ _ _ _ _ (permIn_mono _ _ _ _ _ _ (Nat.le_refl _) (by omega) (by omega) h.1) (swp_permIn _ _ _ _ _ (by omega) (by omega) (by omega) (by omega) (by omega)), fun x => ?_⟩
  rw [Go.Sort.swp_get d' (by omega) (by omega), ← rot_up a k hk (atA d) x, h.2, h.2, h.2]
theorem Rot.none (m b : Nat) (d : Array α) : Rot m m b d d := ⟨permIn_refl _ _ _, fun x => (rot_left m b (atA d) x).symm⟩
theorem Rot.down {k m : Nat} {d d' : Array α} (h : Rot (k + 1) m (m + 1) d d') (hk : k + 1 ≤ m) (hb : m < d.size) : Rot k m (m + 1) d (swp d' (k + 1) k) := by
  have hs : d'.size = d.size := h.1.1
  refine ⟨permIn_trans _ _ _ _ _ (permIn_mono _ _ _ _ _ _ (by omega) (Nat.le_refl _) (by omega) h.1) (swp_permIn _ _ _ _ _ (by omega) (by omega) (by omega) (by omega) (by omega)), fun x => ?_⟩
  rw [Go.Sort.swp_get d' (by omega) (by omega), ← rot_down k m hk (atA d) x, h.2, h.2, h.2]
/-- A merge. -/
def Mrg (lt : α → α → Bool) (a b : Nat) (d d' : Array α) : Prop := PermIn a b d d' ∧ SortedIn lt a b d'
omit [Inhabited α] in
theorem le_trans' (hS : SWO lt) {x y z : α} (h1 : lt y x = false) (h2 : lt z y = false) : lt z x = false := hS.ntrans z y x h2 h1
theorem sorted_le (hS : SWO lt) {a b : Nat} {d : Array α} (h : SortedIn lt a b d) {i j : Nat} (hi : a ≤ i) (hij : i ≤ j) (hj : j < b) : lt d[j]! d[i]! = false := by
  by_cases e : i = j
  · subst e; exact hS.irrefl _
  · exact h i j hi (by omega) hj
/-- One element put in from the left. -/
theorem mrg_left (hS : SWO lt) {a i b : Nat} {d d' : Array α} (hR : Rot a (a + 1) i d d') (hi : a + 1 ≤ i) (hib : i ≤ b) (hbs : b ≤ d.size) (hs : SortedIn lt (a + 1) b d) (h1 : ∀ x, a + 1 ≤ x → x < i → lt d[x]! d[a]! = true) (h2 : ∀ x, i ≤ x → x < b → lt d[x]! d[a]! = false) : Mrg lt a b d d' := by
  refine ⟨permIn_mono _ _ _ _ _ _ (Nat.le_refl _) hib hbs hR.1, fun p q hp hpq hq => ?_⟩
  rw [hR.2, hR.2]
  unfold rotF atA
  by_cases c1 : q < i - 1
  · rw [if_pos (by omega), if_pos (by omega)]
    exact sorted_le hS hs (by omega) (by omega) (by omega)
  · by_cases c2 : q = i - 1
    · rw [if_neg (by omega), if_pos (by omega), if_pos (by omega)]
      have e : q - (i - (a + 1)) = a := by omega
      rw [e]
      exact hS.asymm (h1 _ (by omega) (by omega))
    · by_cases c3 : p < i - 1
      · rw [if_neg (by omega), if_neg (by omega), if_pos (by omega)]
        exact sorted_le hS hs (by omega) (by omega) (by omega)
      · by_cases c4 : p = i - 1
        · rw [if_neg (by omega), if_neg (by omega), if_neg (by omega), if_pos (by omega)]
          rw [show p - (i - (a + 1)) = a by omega]
          exact h2 q (by omega) hq
        · rw [if_neg (by omega), if_neg (by omega), if_neg (by omega), if_neg (by omega)]
          exact sorted_le hS hs (by omega) (by omega) (by omega)
/-- One element put in from the right. -/
theorem mrg_right (hS : SWO lt) {a i m : Nat} {d d' : Array α} (hR : Rot i m (m + 1) d d') (hi : a ≤ i) (him : i ≤ m) (hbs : m + 1 ≤ d.size) (hs : SortedIn lt a m d) (h1 : ∀ x, a ≤ x → x < i → lt d[m]! d[x]! = false) (h2 : ∀ x, i ≤ x → x < m → lt d[m]! d[x]! = true) : Mrg lt a (m + 1) d d' := by
  refine ⟨permIn_mono _ _ _ _ _ _ hi (Nat.le_refl _) hbs hR.1, fun p q hp hpq hq => ?_⟩
  rw [hR.2, hR.2]
  unfold rotF atA
  by_cases c1 : q < i
  · rw [if_neg (by omega), if_neg (by omega), if_neg (by omega), if_neg (by omega)]
    exact sorted_le hS hs (by omega) (by omega) (by omega)
  · by_cases c2 : q = i
    · rw [if_pos (by omega), if_neg (by omega), if_neg (by omega)]
      rw [show q + (m - i) = m by omega]
      exact h1 p hp (by omega)
    · by_cases c3 : p < i
      · rw [if_neg (by omega), if_pos (by omega), if_neg (by omega), if_neg (by omega)]
        exact sorted_le hS hs (by omega) (by omega) (by omega)
      · by_cases c4 : p = i
        · rw [if_neg (by omega), if_pos (by omega), if_pos (by omega)]
          rw [show p + (m - i) = m by omega]
          exact hS.asymm (h2 _ (by omega) (by omega))
        · rw [if_neg (by omega), if_pos (by omega), if_neg (by omega), if_pos (by omega)]
          exact sorted_le hS hs (by omega) (by omega) (by omega)
/-- What symMerge's search finds. -/
structure Cutd (lt : α → α → Bool) (a m b mid s : Nat) (d : Array α) : Prop where
  h1 : a ≤ s
  h2 : s ≤ m
  h3 : s ≤ mid
  h4 : m ≤ mid + m - s
  h5 : mid + m - s ≤ b
  low : (mid < m ∧ s = mid + m - b) ∨ (m ≤ mid ∧ s = a) ∨ (a < s ∧ mid + m - s < b ∧ lt d[mid + m - s]! d[s - 1]! = false)
  high : (mid < m ∧ s = mid) ∨ (m ≤ mid ∧ s = m) ∨ (s < m ∧ m < mid + m - s ∧ lt d[mid + m - s - 1]! d[s]! = true)
theorem mrg_parts (hS : SWO lt) {a m b mid s : Nat} {d d1 d2 d3 : Array α} (ham : a < m) (hmb : m < b) (hmid : mid = (a + b) / 2) (hb : b ≤ d.size) (hl : SortedIn lt a m d) (hr : SortedIn lt m b d) (hc : Cutd lt a m b mid s d)
    (hR : Rot s m (mid + m - s) d d1) (h2 : Mrg lt a mid d1 d2) (h3 : Mrg lt mid b d2 d3) : Mrg lt a b d d3 := by
  obtain ⟨c1, c2, c3, c4, c5, cl, ch⟩ := hc
  have hs1 : d1.size = d.size := hR.1.1
  have hs2 : d2.size = d.size := h2.1.1.trans hs1
  have p1 : PermIn a b d d1 := permIn_mono _ _ _ _ _ _ c1 c5 hb hR.1
  have p2 : PermIn a b d1 d2 := permIn_mono _ _ _ _ _ _ (Nat.le_refl _) (by omega) (by omega) h2.1
  have p3 : PermIn a b d2 d3 := permIn_mono _ _ _ _ _ _ (by omega) (Nat.le_refl _) (by omega) h3.1
  refine ⟨permIn_trans _ _ _ _ _ (permIn_trans _ _ _ _ _ p1 p2) p3, fun p q hp hpq hq => ?_⟩
  -- cross
  have cross1 : ∀ i j, a ≤ i → i < mid → mid ≤ j → j < b → lt d1[j]! d1[i]! = false := by
    intro i j hi1 hi2 hj1 hj2
    rw [hR.2, hR.2]
    unfold rotF atA
    have ll : ∀ i j, a ≤ i → i < s → s ≤ j → j < m → lt d[j]! d[i]! = false := fun i j h1 h2 h3 h4 => sorted_le hS hl h1 (by omega) h4
    have rr : ∀ i j, m ≤ i → i < mid + m - s → mid + m - s ≤ j → j < b → lt d[j]! d[i]! = false := fun i j h1 h2 h3 h4 => sorted_le hS hr h1 (by omega) h4
    have lr : ∀ i j, a ≤ i → i < s → mid + m - s ≤ j → j < b → lt d[j]! d[i]! = false := by
      intro i j h1 h2 h3 h4
      rcases cl with cl | cl | cl
      · omega
      · omega
      · exact le_trans' hS (le_trans' hS (sorted_le hS hl h1 (show i ≤ s - 1 by omega) (by omega)) cl.2.2) (sorted_le hS hr (by omega) h3 h4)
    have rl : ∀ i j, m ≤ i → i < mid + m - s → s ≤ j → j < m → lt d[j]! d[i]! = false := by
      intro i j h1 h2 h3 h4
      rcases ch with ch | ch | ch
      · omega
      · omega
      · exact le_trans' hS (le_trans' hS (sorted_le hS hr h1 (show i ≤ mid + m - s - 1 by omega) (by omega)) (hS.asymm ch.2.2)) (sorted_le hS hl (by omega) h3 h4)
    by_cases k1 : i < s
    · have ei : (if s ≤ i ∧ i < s + (mid + m - s - m) then d[i + (m - s)]! else if s + (mid + m - s - m) ≤ i ∧ i < mid + m - s then d[i - (mid + m - s - m)]! else d[i]!) = d[i]! := by rw [if_neg (by omega), if_neg (by omega)]
      rw [ei]
      by_cases k2 : j < mid + m - s
      · rw [if_neg (by omega), if_pos (by omega)]
        exact ll _ _ hi1 k1 (by omega) (by omega)
      · rw [if_neg (by omega), if_neg (by omega)]
        exact lr _ _ hi1 k1 (by omega) hj2
    · have ei : (if s ≤ i ∧ i < s + (mid + m - s - m) then d[i + (m - s)]! else if s + (mid + m - s - m) ≤ i ∧ i < mid + m - s then d[i - (mid + m - s - m)]! else d[i]!) = d[i + (m - s)]! := by rw [if_pos (by omega)]
      rw [ei]
      by_cases k2 : j < mid + m - s
      · rw [if_neg (by omega), if_pos (by omega)]
        exact rl _ _ (by omega) (by omega) (by omega) (by omega)
      · rw [if_neg (by omega), if_neg (by omega)]
        exact rr _ _ (by omega) (by omega) (by omega) hj2
  have cross2 : ∀ i j, a ≤ i → i < mid → mid ≤ j → j < b → lt d2[j]! d2[i]! = false := by
    intro i j hi1 hi2 hj1 hj2
    rw [h2.1.2.1 j (by omega)]
    exact permIn_all d1 d2 a mid (fun x => lt d1[j]! x = false) (by omega) h2.1 (fun i h1 h2 => cross1 i j h1 h2 hj1 hj2) i hi1 hi2
  have cross3 : ∀ i j, a ≤ i → i < mid → mid ≤ j → j < b → lt d3[j]! d3[i]! = false := by
    intro i j hi1 hi2 hj1 hj2
    rw [h3.1.2.1 i (by omega)]
    exact permIn_all d2 d3 mid b (fun x => lt x d2[i]! = false) (by omega) h3.1 (fun j h1 h2 => cross2 i j hi1 hi2 h1 h2) j hj1 hj2
  by_cases k1 : q < mid
  · have s3 : ∀ x, x < mid → d3[x]! = d2[x]! := fun x hx => h3.1.2.1 x (by omega)
    rw [s3 q k1, s3 p (by omega)]
    exact h2.2 p q hp hpq k1
  · by_cases k2 : p < mid
    · exact cross3 p q hp k2 (by omega) hq
    · exact h3.2 p q (by omega) hpq hq
end
end Go.Proofs.YthiemjodcklejaaGreatDoor

/-
  Walks: slices.SortStableFunc at the rows of topdown: the closure, insertionSort's contract laid, swapRange, rotate.
-/
namespace Go.Proofs.YthiemjodcklejaaGreatDoor
open Go.Shelf Go.RowKit Go.Lib Go.Sort

def rcells (c : Nat) : List Value := [.int .i64 (evW c), .int .u64 (loW c), .int .u64 (hiW c)]
/-- A number as a row: its low bits. -/
def lowR (c : Nat) : Nat := c % 5708990770823839524233143877797980545530986496
theorem lowR_lt (c : Nat) : RowLt 152 (lowR c) := rowLt_of_num (Nat.lt_of_lt_of_le (Nat.mod_lt _ (by decide)) (by decide))
theorem lowR_of {c : Nat} (h : RowLt 152 c) : lowR c = c := Nat.mod_eq_of_lt (Nat.lt_of_lt_of_le (rowLt_num h) (by decide))
def encR (c : Nat) : List Value := rcells (lowR c)
def cfR (a b : Nat) : Int := (pc (lowR a) : Int) - (pc (lowR b) : Int)
theorem ltR (a b : Nat) : ltOf cfR a b = decide (pc (lowR a) < pc (lowR b)) := by
  unfold ltOf cfR
  rw [decide_eq_decide]; omega
theorem swoR : SWO (ltOf cfR) where
  irrefl x := by rw [ltR]; simp
  trans x y z h1 h2 := by rw [ltR] at *; simp at *; omega
  ntrans x y z h1 h2 := by rw [ltR] at *; simp at *; omega
theorem drewN_alloc_grow (w : World) (C : Obj) (n : Nat) : (w.alloc C).drewN n = grow (w.drewN n) #[C] := by
  rw [alloc_eq_grow]; rfl
theorem grow_two (W : World) (X Y : Obj) (n : Nat) (os : Array Obj) : grow (((W.alloc X).alloc Y).drewN n) os = grow (W.drewN n) (#[X] ++ (#[Y] ++ os)) := by
  rw [alloc_eq_grow, alloc_eq_grow]
  show grow (grow (grow (W.drewN n) #[X]) #[Y]) os = _
  rw [grow_grow, grow_grow]
set_option maxRecDepth 100000 in
theorem leastCmp (x y : Nat) (W : World) : Calls Tryz.prog 205 #[.agg (encR x).toArray, .agg (encR y).toArray] W fun e w' => e = .returned (.int .i64 (cfR x y)) ∧ ∃ q os', w' = grow (W.drewN q) os' := by
  have hx : ∀ W', Calls Tryz.prog 206 #[.agg (encR x).toArray] W' fun e w' => e = .returned (.int .i64 (pc (lowR x))) ∧ ∃ q os', w' = grow (W'.drewN q) os' := fun W' => (rsize_any (lowR_lt x) W').mono fun _ _ ⟨h1, C, n, h2⟩ => ⟨h1, n, _, h2.trans (drewN_alloc_grow W' C n)⟩
  have hy : ∀ W', Calls Tryz.prog 206 #[.agg (encR y).toArray] W' fun e w' => e = .returned (.int .i64 (pc (lowR y))) ∧ ∃ q os', w' = grow (W'.drewN q) os' := fun W' => (rsize_any (lowR_lt y) W').mono fun _ _ ⟨h1, C, n, h2⟩ => ⟨h1, n, _, h2.trans (drewN_alloc_grow W' C n)⟩
  have bx := pc_lt 152 (lowR x) (rowLt_num (lowR_lt x))
  have by' := pc_lt 152 (lowR y) (rowLt_num (lowR_lt y))
  unfold cfR
  unfold encR rcells at *
  generalize pc (lowR x) = px at *
  generalize pc (lowR y) = py at *
  generalize evW (lowR x) = x0 at *
  generalize loW (lowR x) = x1 at *
  generalize hiW (lowR x) = x2 at *
  generalize evW (lowR y) = y0 at *
  generalize loW (lowR y) = y1 at *
  generalize hiW (lowR y) = y2 at *
  have w1 : IntKind.i64.wrap ((px : Int) - (py : Int)) = (px : Int) - (py : Int) := by rw [IntKind.wrap_i64]; omega
  have mixed : Tryz.prog.follows .mixedOrders = true := by kernel_rfl
  have cx : ∀ n os, (grow ((((W.alloc (.cells #[.int .i64 x0, .int .u64 x1, .int .u64 x2] 121)).alloc (.cells #[.int .i64 y0, .int .u64 y1, .int .u64 y2] 121))).drewN n) os).cell? ⟨W.heap.size, 0, none⟩ = some (.int .i64 x0) ∧ (grow ((((W.alloc (.cells #[.int .i64 x0, .int .u64 x1, .int .u64 x2] 121)).alloc (.cells #[.int .i64 y0, .int .u64 y1, .int .u64 y2] 121))).drewN n) os).cell? ⟨W.heap.size, 1, none⟩ = some (.int .u64 x1) ∧ (grow ((((W.alloc (.cells #[.int .i64 x0, .int .u64 x1, .int .u64 x2] 121)).alloc (.cells #[.int .i64 y0, .int .u64 y1, .int .u64 y2] 121))).drewN n) os).cell? ⟨W.heap.size, 2, none⟩ = some (.int .u64 x2) := fun n os => by
    refine ⟨?_, ?_, ?_⟩ <;> (rw [cell?_grow _ _ _ (by simp; omega)]; simp)
  have cy : ∀ n os, (grow ((((W.alloc (.cells #[.int .i64 x0, .int .u64 x1, .int .u64 x2] 121)).alloc (.cells #[.int .i64 y0, .int .u64 y1, .int .u64 y2] 121))).drewN n) os).cell? ⟨W.heap.size + 1, 0, none⟩ = some (.int .i64 y0) ∧ (grow ((((W.alloc (.cells #[.int .i64 x0, .int .u64 x1, .int .u64 x2] 121)).alloc (.cells #[.int .i64 y0, .int .u64 y1, .int .u64 y2] 121))).drewN n) os).cell? ⟨W.heap.size + 1, 1, none⟩ = some (.int .u64 y1) ∧ (grow ((((W.alloc (.cells #[.int .i64 x0, .int .u64 x1, .int .u64 x2] 121)).alloc (.cells #[.int .i64 y0, .int .u64 y1, .int .u64 y2] 121))).drewN n) os).cell? ⟨W.heap.size + 1, 2, none⟩ = some (.int .u64 y2) := fun n os => by
    refine ⟨?_, ?_, ?_⟩ <;> (rw [cell?_grow _ _ _ (by simp)]; simp)
  have HX : Hid _ := hx
  have HY : Hid _ := hy
  clear hx hy
  show Calls Tryz.prog 205 #[.agg #[.int .i64 x0, .int .u64 x1, .int .u64 x2], .agg #[.int .i64 y0, .int .u64 y1, .int .u64 y2]] W _
  go_enter Tryz.func205, Tryz.ntmps205
  go_wp2
  go_quiet_grown (first | (go_at_call 206; (with_reducible refine Calls.grown_of (HX.out _))) | (go_at_call 206; (with_reducible refine Calls.grown_of (HY.out _))))
  go_wp2
  go_ret
  exact ⟨rfl, nq, _, grow_two _ _ _ _ _⟩
end Go.Proofs.YthiemjodcklejaaGreatDoor

/-
  Walks over a program that is a variable: swapRange and rotate of slices.SortStableFunc at the rows of topdown.
-/
namespace Go.Proofs.YthiemjodcklejaaGreatDoor
open Go.Shelf Go.RowKit Go.Lib Go.Sort

/-- What the walks want of the program. -/
structure StL (P : Program) (k : Nat) : Prop where
  mixed : P.follows .mixedOrders = true
  g148 : P.funcs[276]? = some Tryz.f276
  g147 : P.funcs[271]? = some Tryz.f271
  g145 : P.funcs[266]? = some Tryz.f266
  t0 : P.underlying 0 = some (TypeDesc.tuple #[])
  a0 : ∀ (w : World), Sem.run P (isAgg 0) w = Result.ok false w
  z0 : ∀ (w : World), Sem.run P (Go.sizeOf 0) w = Result.ok 1 w
  v0 : ∀ (w : World), Sem.run P (zeroValue 0) w = Result.ok (Value.tuple #[]) w
  t3 : P.underlying 3 = some (TypeDesc.int IntKind.i64)
  a3 : ∀ (w : World), Sem.run P (isAgg 3) w = Result.ok false w
  z3 : ∀ (w : World), Sem.run P (Go.sizeOf 3) w = Result.ok 1 w
  v3 : ∀ (w : World), Sem.run P (zeroValue 3) w = Result.ok (Value.int IntKind.i64 0) w
  t4 : P.underlying 4 = some TypeDesc.bool
  a4 : ∀ (w : World), Sem.run P (isAgg 4) w = Result.ok false w
  z4 : ∀ (w : World), Sem.run P (Go.sizeOf 4) w = Result.ok 1 w
  v4 : ∀ (w : World), Sem.run P (zeroValue 4) w = Result.ok (Value.bool false) w
  tu : P.underlying 148 = some (TypeDesc.int IntKind.u64)
  au : ∀ (w : World), Sem.run P (isAgg 148) w = Result.ok false w
  zu : ∀ (w : World), Sem.run P (Go.sizeOf 148) w = Result.ok 1 w
  vu : ∀ (w : World), Sem.run P (zeroValue 148) w = Result.ok (Value.int IntKind.u64 0) w
  t22 : P.underlying 115 = some (TypeDesc.slice 121)
  a22 : ∀ (w : World), Sem.run P (isAgg 115) w = Result.ok false w
  z22 : ∀ (w : World), Sem.run P (Go.sizeOf 115) w = Result.ok 1 w
  v22 : ∀ (w : World), Sem.run P (zeroValue 115) w = Result.ok (Value.slice none 0 0) w
  t25 : P.underlying 205 = some (TypeDesc.func #[121, 121] #[3] false)
  a25 : ∀ (w : World), Sem.run P (isAgg 205) w = Result.ok false w
  z25 : ∀ (w : World), Sem.run P (Go.sizeOf 205) w = Result.ok 1 w
  v25 : ∀ (w : World), Sem.run P (zeroValue 205) w = Result.ok Value.nilFunc w
  aE : ∀ (w : World), Sem.run P (isAgg 121) w = Result.ok true w
  zE : ∀ (w : World), Sem.run P (Go.sizeOf 121) w = Result.ok k w
theorem stL : StL Tryz.prog 3 where
  mixed := by kernel_rfl
  g148 := Tryz.func276
  g147 := Tryz.func271
  g145 := Tryz.func266
  t0 := Tryz.underlying0
  a0 := Tryz.isAgg0
  z0 := Tryz.sizeOf0
  v0 := Tryz.zeroValue0
  t3 := Tryz.underlying3
  a3 := Tryz.isAgg3
  z3 := Tryz.sizeOf3
  v3 := Tryz.zeroValue3
  t4 := Tryz.underlying4
  a4 := Tryz.isAgg4
  z4 := Tryz.sizeOf4
  v4 := Tryz.zeroValue4
  tu := Tryz.underlying148
  au := Tryz.isAgg148
  zu := Tryz.sizeOf148
  vu := Tryz.zeroValue148
  t22 := Tryz.underlying115
  a22 := Tryz.isAgg115
  z22 := Tryz.sizeOf115
  v22 := Tryz.zeroValue115
  t25 := Tryz.underlying205
  a25 := Tryz.isAgg205
  z25 := Tryz.sizeOf205
  v25 := Tryz.zeroValue205
  aE := Tryz.isAgg121
  zE := Tryz.sizeOf121
section
variable {P : Program} {α : Type} [Inhabited α]
set_option maxHeartbeats 4000000 in
set_option maxRecDepth 1000000 in
theorem swapRange_o (k : Nat) (L : StL P k) (enc : α → List Value) (g : Nat) (cb : Array Value) (blk off cap a b n : Nat) (d0 d : Array α) (w0 w : World)
    (R : RowK enc k w0 blk off d0) (hs : d0.size = d.size) (S : SWK enc k w0 blk off d w) (hab : a + n ≤ b) (hb : b + n ≤ d.size) (hsz : d.size < 4611686018427387904) :
    Calls P 276 #[.slice (some ⟨blk, off, none⟩) d.size cap, .int .i64 a, .int .i64 b, .int .i64 n, .func (.func g) #[] cb] w fun e w' => e = .returned (.tuple #[]) ∧ ∃ dn, Swd a b n d dn ∧ SWK enc k w0 blk off dn w' := by
  have mixed := L.mixed; have t0 := L.t0; have a0 := L.a0; have z0 := L.z0; have v0 := L.v0; have t3 := L.t3; have a3 := L.a3; have z3 := L.z3; have v3 := L.v3; have t4 := L.t4; have a4 := L.a4; have z4 := L.z4; have v4 := L.v4; have t22 := L.t22; have a22 := L.a22; have z22 := L.z22; have v22 := L.v22; have t25 := L.t25; have a25 := L.a25; have z25 := L.z25; have v25 := L.v25; have aE := L.aE; have zE := L.zE
  have FG := L.g148
  have S0 : Aside (SWK enc k w0 blk off d w) := S
  clear S L
  go_enter FG, Tryz.ntmps276
  go_wp2
  go_loopg [10] n (fun kx s10 wr => ∃ (q : Nat) (dk : Array α), s10 = .int .i64 q ∧ q ≤ n ∧ n - q ≤ kx ∧ dk.size = d.size ∧ Aside (SWK enc k w0 blk off dk wr) ∧ Hid (Swd a b q d dk))
  case atStart => exact ⟨0, d, rfl, Nat.zero_le _, by omega, rfl, S0, Lib.hid (Swd.start a b d)⟩
  case round =>
    clear S0
    obtain ⟨q, dk, rfl, hq, hkx, hds, S1, HW⟩ := hrel
    by_cases hlt : q < n
    · have hltz : (q : Int) < (n : Int) := by omega
      go_wp2_with fail
      have wa : IntKind.i64.wrap ((a : Int) + (q : Int)) = ((a + q : Nat) : Int) := by rw [IntKind.wrap_i64]; omega
      have wa' : (a : Int) + (q : Int) = ((a + q : Nat) : Int) := by omega
      have wb : IntKind.i64.wrap ((b : Int) + (q : Int)) = ((b + q : Nat) : Int) := by rw [IntKind.wrap_i64]; omega
      have wb' : (b : Int) + (q : Int) = ((b + q : Nat) : Int) := by omega
      obtain ⟨x, hx⟩ : ∃ x, x = a + q := ⟨_, rfl⟩
      obtain ⟨y, hy⟩ : ∃ y, y = b + q := ⟨_, rfl⟩
      have HXY : Hid (x = a + q ∧ y = b + q) := ⟨hx, hy⟩
      rw [← hx] at wa wa'
      rw [← hy] at wb wb'
      have hxs : x < d.size := by omega
      have hys : y < d.size := by omega
      clear hx hy
      have ea44 : ((x : Int)).toNat = x := by omega
      have pa44 : (0 : Int) ≤ (x : Int) := by omega
      have ba44 : (x : Int) < (d.size : Int) := by omega
      have ec44 : ((y : Int)).toNat = y := by omega
      have pc44 : (0 : Int) ≤ (y : Int) := by omega
      have bc44 : (y : Int) < (d.size : Int) := by omega
      have S2 : Aside (SWK enc k w0 blk off (swp dk x y) ((wr.drew.setCells blk (off + x * k) (enc dk[y]!)).setCells blk (off + y * k) (enc dk[x]!))) := S1.out.swapped R x y (by omega) (by omega)
      have l44a := S1.out.ld1 R (by omega) P x (by omega)
      have l44b := S1.out.ld1 R (by omega) P y (by omega)
      have s44a := S1.out.st1 R (by omega) P x (by omega) dk[y]!
      have s44b := S1.out.st2 R (by omega) P x y (by omega) (by omega) dk[y]! dk[x]!
      have n44a : (enc dk[x]!).length = k := R.hk _
      have n44b : (enc dk[y]!).length = k := R.hk _
      generalize enc dk[x]! = cI44 at S2 l44a s44b n44a
      generalize enc dk[y]! = cJ44 at S2 l44b s44a s44b n44b
      clear S1
      go_big_region_o
      clear l44a l44b s44a s44b
      generalize (wr.drew.setCells blk (off + x * k) cJ44).setCells blk (off + y * k) cI44 = w2 at S2 ⊢
      go_wp2
      go_roundg (n - (q + 1))
      case measure => omega
      case rel => exact ⟨q + 1, swp dk x y, by go_num, by omega, Nat.le_refl _, by rw [Go.Sort.size_swp]; exact hds, S2, by rw [HXY.out.1, HXY.out.2]; exact Lib.hid (HW.out.step (by omega) (by omega))⟩
    · have hltz : ¬ (q : Int) < (n : Int) := by omega
      have hke : q = n := by omega
      subst hke
      go_wp2
      go_end0
      exact ⟨rfl, dk, HW.out, S1.out⟩
set_option maxHeartbeats 4000000 in
set_option maxRecDepth 1000000 in
theorem rotate_o (k : Nat) (L : StL P k) (enc : α → List Value) (g : Nat) (cb : Array Value) (blk off cap a m b : Nat) (d0 d : Array α) (w0 w : World)
    (R : RowK enc k w0 blk off d0) (hs : d0.size = d.size) (S : SWK enc k w0 blk off d w) (ham : a < m) (hmb : m < b) (hb : b ≤ d.size) (hsz : d.size < 4611686018427387904) :
    Calls P 271 #[.slice (some ⟨blk, off, none⟩) d.size cap, .int .i64 a, .int .i64 m, .int .i64 b, .func (.func g) #[] cb] w fun e w' => e = .returned (.tuple #[]) ∧ ∃ dn, Rot a m b d dn ∧ SWK enc k w0 blk off dn w' := by
  have t0 := L.t0; have a0 := L.a0; have z0 := L.z0; have v0 := L.v0; have t3 := L.t3; have a3 := L.a3; have z3 := L.z3; have v3 := L.v3; have t4 := L.t4; have a4 := L.a4; have z4 := L.z4; have v4 := L.v4; have t22 := L.t22; have a22 := L.a22; have z22 := L.z22; have v22 := L.v22; have t25 := L.t25; have a25 := L.a25; have z25 := L.z25; have v25 := L.v25
  have FG := L.g147
  have e148 : ∀ args w, (callFunc 276 args).run P w = .ok (.enter 276 args) w := enters_of L.g148 (by kernel_rfl) rfl
  have HSW : Hid (∀ (a b n : Nat) (dk : Array α) (wr : World), d0.size = dk.size → SWK enc k w0 blk off dk wr → a + n ≤ b → b + n ≤ dk.size → dk.size < 4611686018427387904 →
    Calls P 276 #[.slice (some ⟨blk, off, none⟩) dk.size cap, .int .i64 a, .int .i64 b, .int .i64 n, .func (.func g) #[] cb] wr fun e w' => e = .returned (.tuple #[]) ∧ ∃ dn, Swd a b n dk dn ∧ SWK enc k w0 blk off dn w') :=
    Lib.hid fun a b n dk wr h1 h2 h3 h4 h5 => swapRange_o k L enc g cb blk off cap a b n d0 dk w0 wr R h1 h2 h3 h4 h5
  have S0 : Aside (SWK enc k w0 blk off d w) := S
  clear S L
  have wi : IntKind.i64.wrap ((m : Int) - (a : Int)) = ((m - a : Nat) : Int) := by rw [IntKind.wrap_i64]; omega
  have wi' : (m : Int) - (a : Int) = ((m - a : Nat) : Int) := by omega
  have wj : IntKind.i64.wrap ((b : Int) - (m : Int)) = ((b - m : Nat) : Int) := by rw [IntKind.wrap_i64]; omega
  have wj' : (b : Int) - (m : Int) = ((b - m : Nat) : Int) := by omega
  go_enter FG, Tryz.ntmps271
  go_wp2
  clear wi wi' wj wj'
  go_loopg [10, 11] (b - a) (fun kx s10 s11 wr => ∃ (i j : Nat) (dk : Array α), s10 = .int .i64 i ∧ s11 = .int .i64 j ∧ 0 < i ∧ 0 < j ∧ i + j ≤ kx ∧ dk.size = d.size ∧ Aside (SWK enc k w0 blk off dk wr) ∧ Hid (RotTo a m b d i j dk))
  case atStart => exact ⟨m - a, b - m, d, rfl, rfl, by omega, by omega, by omega, rfl, S0, Lib.hid (RotTo.start d (by omega) (by omega))⟩
  case round =>
    clear S0
    obtain ⟨i, j, dk, rfl, rfl, hi, hj, hkx, hds, S1, HW⟩ := hrel
    have hb3 := HW.out.2.2.1
    have hb4 := HW.out.2.2.2.1
    have hb5 := HW.out.2.2.2.2
    rcases Nat.lt_trichotomy i j with hlt | heq | hgt
    · have q1 : ((i : Int) == (j : Int)) = false := by simp; omega
      have q2 : ¬ (j : Int) < (i : Int) := by omega
      have q3 : ((i : Int) != (j : Int)) = true := by simp; omega
      obtain ⟨p1, hp1⟩ : ∃ x, x = m - i := ⟨_, rfl⟩
      obtain ⟨p2, hp2⟩ : ∃ x, x = m + j := ⟨_, rfl⟩
      obtain ⟨p3, hp3⟩ : ∃ x, x = m + j - i := ⟨_, rfl⟩
      obtain ⟨p4, hp4⟩ : ∃ x, x = j - i := ⟨_, rfl⟩
      have u1 : IntKind.i64.wrap ((m : Int) - (i : Int)) = (p1 : Int) := by rw [IntKind.wrap_i64]; omega
      have u1' : (m : Int) - (i : Int) = (p1 : Int) := by omega
      have u2' : (m : Int) + (j : Int) = (p2 : Int) := by omega
      have u3' : (p2 : Int) - (i : Int) = (p3 : Int) := by omega
      have u4 : IntKind.i64.wrap ((j : Int) - (i : Int)) = (p4 : Int) := by rw [IntKind.wrap_i64]; omega
      have u4' : (j : Int) - (i : Int) = (p4 : Int) := by omega
      have hc := HSW.out (m - i) (m + j - i) i dk wr (by omega) S1.out (by omega) (by omega) (by omega)
      have HN := Lib.hid (fun dn h => HW.out.left hb hlt (dn := dn) h)
      rw [hds, ← hp1, ← hp3] at hc
      rw [← hp1, ← hp3, ← hp4] at HN
      have HC := Lib.hid hc
      have hp4' : 0 < p4 := by omega
      have hpm : p4 < j := by omega
      have b2 : (p2 : Int) < 4611686018427387904 := by omega
      have b3 : (p3 : Int) < 4611686018427387904 := by omega
      clear hb3 hb4 hb5 hc hp1 hp2 hp3 hp4 S1 hds HW
      go_wp2_with (go_at_fn 276; refine HC.out.mono ?_; rintro e w2 ⟨rfl, dn, hsw, hsk⟩)
      have HR := Lib.hid (HN.out dn hsw)
      have hdn := HR.out.1.1
      have S2 : Aside (SWK enc k w0 blk off dn w2) := hsk
      clear hsw hsk HC HN u1 u1' u2' u3'
      go_wp2
      clear u4 u4'
      go_roundg (i + p4)
      case measure => omega
      case rel => exact ⟨i, p4, dn, rfl, rfl, hi, hp4', Nat.le_refl _, hdn, S2, HR⟩
    · subst heq
      have q1 : ((i : Int) == (i : Int)) = true := by simp
      have q3 : ((i : Int) != (i : Int)) = false := by simp
      obtain ⟨p1, hp1⟩ : ∃ x, x = m - i := ⟨_, rfl⟩
      have u1 : IntKind.i64.wrap ((m : Int) - (i : Int)) = (p1 : Int) := by rw [IntKind.wrap_i64]; omega
      have u1' : (m : Int) - (i : Int) = (p1 : Int) := by omega
      have hc := HSW.out (m - i) m i dk wr (by omega) S1.out (by omega) (by omega) (by omega)
      have HN := Lib.hid (fun dn h => HW.out.done hb (dn := dn) h)
      rw [hds, ← hp1] at hc
      rw [← hp1] at HN
      have HC := Lib.hid hc
      clear hb3 hb4 hb5 hc hp1 S1 hds HW
      go_wp2_with (go_at_fn 276; refine HC.out.mono ?_; rintro e w2 ⟨rfl, dn, hsw, hsk⟩)
      go_end0
      exact ⟨rfl, dn, HN.out dn hsw, hsk⟩
    · have q1 : ((i : Int) == (j : Int)) = false := by simp; omega
      have q2 : (j : Int) < (i : Int) := by omega
      have q3 : ((i : Int) != (j : Int)) = true := by simp; omega
      obtain ⟨p1, hp1⟩ : ∃ x, x = m - i := ⟨_, rfl⟩
      obtain ⟨p4, hp4⟩ : ∃ x, x = i - j := ⟨_, rfl⟩
      have u1 : IntKind.i64.wrap ((m : Int) - (i : Int)) = (p1 : Int) := by rw [IntKind.wrap_i64]; omega
      have u1' : (m : Int) - (i : Int) = (p1 : Int) := by omega
      have u4 : IntKind.i64.wrap ((i : Int) - (j : Int)) = (p4 : Int) := by rw [IntKind.wrap_i64]; omega
      have u4' : (i : Int) - (j : Int) = (p4 : Int) := by omega
      have hc := HSW.out (m - i) m j dk wr (by omega) S1.out (by omega) (by omega) (by omega)
      have HN := Lib.hid (fun dn h => HW.out.right hb hgt (dn := dn) h)
      rw [hds, ← hp1] at hc
      rw [← hp1, ← hp4] at HN
      have HC := Lib.hid hc
      have hp4' : 0 < p4 := by omega
      have hpm : p4 < i := by omega
      clear hb3 hb4 hb5 hc hp1 hp4 S1 hds HW
      go_wp2_with (go_at_fn 276; refine HC.out.mono ?_; rintro e w2 ⟨rfl, dn, hsw, hsk⟩)
      have HR := Lib.hid (HN.out dn hsw)
      have hdn := HR.out.1.1
      have S2 : Aside (SWK enc k w0 blk off dn w2) := hsk
      clear hsw hsk HC HN u1 u1' u4 u4'
      go_wp2
      go_roundg (p4 + j)
      case measure => omega
      case rel => exact ⟨p4, j, dn, rfl, rfl, hp4', hj, Nat.le_refl _, hdn, S2, HR⟩
end
end Go.Proofs.YthiemjodcklejaaGreatDoor

/-
  Walks over a program that is a variable: symMerge of slices.SortStableFunc at the rows of topdown.
-/
namespace Go.Proofs.YthiemjodcklejaaGreatDoor
open Go.Shelf Go.RowKit Go.Lib Go.Sort
section
variable {P : Program} {α : Type} [Inhabited α]
set_option maxHeartbeats 8000000 in
set_option maxRecDepth 1000000 in
theorem symLeft_o (k : Nat) (L : StL P k) (enc : α → List Value) (cf : α → α → Int) (hO : SWO (ltOf cf)) (g : Nat) (cb : Array Value) (eg : ∀ args w, (callFunc g args).run P w = .ok (.enter g args) w) (blk off cap a m b : Nat) (d0 d : Array α) (w0 w : World)
    (hcmp : CmpLays P g cb enc k cf blk off d0.size w0) (R : RowK enc k w0 blk off d0) (hs : d0.size = d.size) (S : SWK enc k w0 blk off d w) (ham : a + 1 = m) (hmb : m < b) (hb : b ≤ d.size) (hsz : d.size < 1152921504606846976) (hr : SortedIn (ltOf cf) m b d) :
    Calls P 266 #[.slice (some ⟨blk, off, none⟩) d.size cap, .int .i64 a, .int .i64 m, .int .i64 b, .func (.func g) #[] cb] w fun e w' => e = .returned (.tuple #[]) ∧ ∃ dn, Mrg (ltOf cf) a b d dn ∧ SWK enc k w0 blk off dn w' := by
  have mixed := L.mixed; have t0 := L.t0; have a0 := L.a0; have z0 := L.z0; have v0 := L.v0; have t3 := L.t3; have a3 := L.a3; have z3 := L.z3; have v3 := L.v3; have t4 := L.t4; have a4 := L.a4; have z4 := L.z4; have v4 := L.v4; have tu := L.tu; have au := L.au; have zu := L.zu; have vu := L.vu; have t22 := L.t22; have a22 := L.a22; have z22 := L.z22; have v22 := L.v22; have t25 := L.t25; have a25 := L.a25; have z25 := L.z25; have v25 := L.v25; have aE := L.aE; have zE := L.zE
  have FG := L.g145
  have HC : Aside _ := hcmp
  have S0 : Aside (SWK enc k w0 blk off d w) := S
  have HR : Hid (SortedIn (ltOf cf) m b d) := hr
  have HO : Hid (SWO (ltOf cf)) := Lib.hid hO
  have q1 : (m : Int) - (a : Int) = 1 := by omega
  clear S L hcmp hr hO
  go_enter FG, Tryz.ntmps266
  go_wp2
  clear q1
  go_loopg [10, 11] (b - m) (fun kx s10 s11 wr => ∃ (i j : Nat), s10 = .int .i64 i ∧ s11 = .int .i64 j ∧ m ≤ i ∧ i ≤ j ∧ j ≤ b ∧ j - i ≤ kx ∧ Aside (SWK enc k w0 blk off d wr) ∧ Hid ((∀ x, m ≤ x → x < i → ltOf cf d[x]! d[a]! = true) ∧ (∀ x, j ≤ x → x < b → ltOf cf d[x]! d[a]! = false)))
  case atStart => exact ⟨m, b, rfl, rfl, by omega, by omega, by omega, by omega, S0, Lib.hid ⟨fun x _ _ => by omega, fun x _ _ => by omega⟩⟩
  case round =>
    clear S0
    obtain ⟨i, j, rfl, rfl, hmi, hij, hjb, hkx, S1, HX⟩ := hrel
    by_cases hlt : i < j
    · have hltz : (i : Int) < (j : Int) := by omega
      obtain ⟨h, hh⟩ : ∃ h, h = (i + j) / 2 := ⟨_, rfl⟩
      have hb1 : (i : Int) + (j : Int) < 4611686018427387904 := by omega
      have hb0 : 0 ≤ (i : Int) + (j : Int) := by omega
      have hhe : ((i : Int) + (j : Int)) / 2 = (h : Int) := by omega
      have hih : i ≤ h := by omega
      have hhj : h < j := by omega
      clear hh
      have hxs : h < d.size := by omega
      have hys : a < d.size := by omega
      cases hlv : ltOf cf d[h]! d[a]! with
      | true =>
        have HN : Hid (∀ x, m ≤ x → x < h + 1 → ltOf cf d[x]! d[a]! = true) := Lib.hid fun x h1 h2 => by
          by_cases e : x = h
          · subst e; exact hlv
          · have h3 : ltOf cf d[h]! d[x]! = false := HR.out x h h1 (by omega) (by omega)
            cases h4 : ltOf cf d[x]! d[a]! with
            | true => rfl
            | false => exact absurd (HO.out.ntrans _ _ _ h3 h4) (by rw [hlv]; simp)
        have ea : ((h : Nat) : Int).toNat = h := by omega
        have pa : (0 : Int) ≤ (h : Int) := by omega
        have ba : (h : Int) < (d.size : Int) := by omega
        have ec : ((a : Nat) : Int).toNat = a := by omega
        have pc : (0 : Int) ≤ (a : Int) := by omega
        have bc : (a : Int) < (d.size : Int) := by omega
        obtain ⟨vx, hvx⟩ : ∃ z, z = d[h]! := ⟨_, rfl⟩
        obtain ⟨vy, hvy⟩ : ∃ z, z = d[a]! := ⟨_, rfl⟩
        have la := S1.out.ld R (by omega) P h (by omega)
        have lb := S1.out.ld R (by omega) P a (by omega)
        rw [← hvx] at la
        rw [← hvy] at lb
        have hcm := S1.out.cmp HC.out (by omega) vx vy
        have hv : cf vx vy < 0 := by rw [hvx, hvy]; exact of_decide_eq_true hlv
        have hd : decide (cf vx vy < 0) = true := decide_eq_true hv
        clear hvx hvy
        go_wp2_with fail
        go_quiet_grown (first | (go_at_fn g; refine Calls.grown_of (hcm _ _)))
        have S2 : Aside (SWK enc k w0 blk off d (grow (wr.drewN nq) osq)) := S1.out.grown nq osq
        clear la lb hcm S1
        generalize grow (wr.drewN nq) osq = w2 at S2 ⊢
        clear nq osq
        go_wp2
        go_roundg (j - (h + 1))
        case measure => omega
        case rel => exact ⟨h + 1, j, by go_num, rfl, by omega, by omega, hjb, Nat.le_refl _, S2, Lib.hid ⟨HN.out, HX.out.2⟩⟩
      | false =>
        have HN : Hid (∀ x, h ≤ x → x < b → ltOf cf d[x]! d[a]! = false) := Lib.hid fun x h1 h2 => by
          by_cases e : x = h
          · subst e; exact hlv
          · have h3 : ltOf cf d[x]! d[h]! = false := HR.out h x (by omega) (by omega) h2
            exact HO.out.ntrans _ _ _ h3 hlv
        have ea : ((h : Nat) : Int).toNat = h := by omega
        have pa : (0 : Int) ≤ (h : Int) := by omega
        have ba : (h : Int) < (d.size : Int) := by omega
        have ec : ((a : Nat) : Int).toNat = a := by omega
        have pc : (0 : Int) ≤ (a : Int) := by omega
        have bc : (a : Int) < (d.size : Int) := by omega
        obtain ⟨vx, hvx⟩ : ∃ z, z = d[h]! := ⟨_, rfl⟩
        obtain ⟨vy, hvy⟩ : ∃ z, z = d[a]! := ⟨_, rfl⟩
        have la := S1.out.ld R (by omega) P h (by omega)
        have lb := S1.out.ld R (by omega) P a (by omega)
        rw [← hvx] at la
        rw [← hvy] at lb
        have hcm := S1.out.cmp HC.out (by omega) vx vy
        have hv : ¬ cf vx vy < 0 := by rw [hvx, hvy]; exact of_decide_eq_false hlv
        have hd : decide (cf vx vy < 0) = false := decide_eq_false hv
        clear hvx hvy
        go_wp2_with fail
        go_quiet_grown (first | (go_at_fn g; refine Calls.grown_of (hcm _ _)))
        have S2 : Aside (SWK enc k w0 blk off d (grow (wr.drewN nq) osq)) := S1.out.grown nq osq
        clear la lb hcm S1
        generalize grow (wr.drewN nq) osq = w2 at S2 ⊢
        clear nq osq
        go_wp2
        go_roundg (h - i)
        case measure => omega
        case rel => exact ⟨i, h, rfl, rfl, hmi, by omega, by omega, Nat.le_refl _, S2, Lib.hid ⟨HX.out.1, HN.out⟩⟩
    · have hltz : ¬ (i : Int) < (j : Int) := by omega
      have hje : j = i := by omega
      subst hje
      go_wp2
      go_loopg [13] (j - a) (fun kx s13 wr => ∃ (q : Nat) (dk : Array α), s13 = .int .i64 q ∧ a ≤ q ∧ q < j ∧ j - q ≤ kx ∧ dk.size = d.size ∧ Aside (SWK enc k w0 blk off dk wr) ∧ Hid (Rot a (a + 1) (q + 1) d dk))
      case atStart => exact ⟨a, d, rfl, by omega, by omega, by omega, rfl, S1, Lib.hid (Rot.one a d)⟩
      case round =>
        clear S1
        obtain ⟨q, dk, rfl, haq, hqj, hkq, hds, S1, HW⟩ := hrel
        have hj1 : 1 ≤ (j : Int) := by omega
        by_cases hqs : q + 1 < j
        · have hqz : (q : Int) < (j : Int) - 1 := by omega
          have hqz' : (q : Int) + 1 < (j : Int) := by omega
          go_wp2_with fail
          obtain ⟨y, hy⟩ : ∃ y, y = q + 1 := ⟨_, rfl⟩
          have HY := Lib.hid hy
          have wy : (q : Int) + 1 = (y : Int) := by omega
          have hxs : q < d.size := by omega
          have hys : y < d.size := by omega
          have ea : ((q : Int)).toNat = q := by omega
          have pa : (0 : Int) ≤ (q : Int) := by omega
          have ba : (q : Int) < (d.size : Int) := by omega
          have ec : ((y : Int)).toNat = y := by omega
          have pc : (0 : Int) ≤ (y : Int) := by omega
          have bc : (y : Int) < (d.size : Int) := by omega
          have wy2 : IntKind.i64.wrap ((q : Int) + 1) = (y : Int) := by rw [IntKind.wrap_i64]; omega
          have S2 : Aside (SWK enc k w0 blk off (swp dk q y) ((wr.drew.setCells blk (off + q * k) (enc dk[y]!)).setCells blk (off + y * k) (enc dk[q]!))) := S1.out.swapped R q y (by omega) (by omega)
          have l44a := S1.out.ld1 R (by omega) P q (by omega)
          have l44b := S1.out.ld1 R (by omega) P y (by omega)
          have s44a := S1.out.st1 R (by omega) P q (by omega) dk[y]!
          have s44b := S1.out.st2 R (by omega) P q y (by omega) (by omega) dk[y]! dk[q]!
          have n44a : (enc dk[q]!).length = k := R.hk _
          have n44b : (enc dk[y]!).length = k := R.hk _
          generalize enc dk[q]! = cI44 at S2 l44a s44b n44a
          generalize enc dk[y]! = cJ44 at S2 l44b s44a s44b n44b
          clear S1 hy
          go_big_region_o
          clear l44a l44b s44a s44b
          generalize (wr.drew.setCells blk (off + q * k) cJ44).setCells blk (off + y * k) cI44 = w2 at S2 ⊢
          clear wy wy2
          go_wp2
          go_roundg (j - (q + 1))
          case measure => omega
          case rel => exact ⟨q + 1, swp dk q y, by go_num, by omega, by omega, Nat.le_refl _, by rw [Go.Sort.size_swp]; exact hds, S2, by rw [HY.out]; exact Lib.hid (HW.out.up haq (by omega))⟩
        · have hqz : ¬ (q : Int) < (j : Int) - 1 := by omega
          have hqz' : ¬ (q : Int) + 1 < (j : Int) := by omega
          have hqe : q + 1 = j := by omega
          have hm : Mrg (ltOf cf) a b d dk := mrg_left HO.out (i := q + 1) HW.out (by omega) (by omega) hb (by rw [ham]; exact HR.out) (fun x h1 h2 => HX.out.1 x (by omega) (by omega)) (fun x h1 h2 => HX.out.2 x (by omega) h2)
          have HM := Lib.hid hm
          clear hm
          go_wp2
          (try simp only [Exit.inBlock, Exit.then]); refine bodyPost_ret (results_none rfl _ _ _) rfl ?_
          exact ⟨rfl, dk, HM.out, S1.out⟩
end
end Go.Proofs.YthiemjodcklejaaGreatDoor

/-
  Walks over a program that is a variable: symMerge of slices.SortStableFunc at the rows of topdown.
-/
namespace Go.Proofs.YthiemjodcklejaaGreatDoor
open Go.Shelf Go.RowKit Go.Lib Go.Sort
section
variable {P : Program} {α : Type} [Inhabited α]
set_option maxHeartbeats 8000000 in
set_option maxRecDepth 1000000 in
theorem symRight_o (k : Nat) (L : StL P k) (enc : α → List Value) (cf : α → α → Int) (hO : SWO (ltOf cf)) (g : Nat) (cb : Array Value) (eg : ∀ args w, (callFunc g args).run P w = .ok (.enter g args) w) (blk off cap a m b : Nat) (d0 d : Array α) (w0 w : World)
    (hcmp : CmpLays P g cb enc k cf blk off d0.size w0) (R : RowK enc k w0 blk off d0) (hs : d0.size = d.size) (S : SWK enc k w0 blk off d w) (ham : a < m) (hne : a + 1 ≠ m) (hmb : m + 1 = b) (hb : b ≤ d.size) (hsz : d.size < 1152921504606846976) (hl : SortedIn (ltOf cf) a m d) :
    Calls P 266 #[.slice (some ⟨blk, off, none⟩) d.size cap, .int .i64 a, .int .i64 m, .int .i64 b, .func (.func g) #[] cb] w fun e w' => e = .returned (.tuple #[]) ∧ ∃ dn, Mrg (ltOf cf) a b d dn ∧ SWK enc k w0 blk off dn w' := by
  have mixed := L.mixed; have t0 := L.t0; have a0 := L.a0; have z0 := L.z0; have v0 := L.v0; have t3 := L.t3; have a3 := L.a3; have z3 := L.z3; have v3 := L.v3; have t4 := L.t4; have a4 := L.a4; have z4 := L.z4; have v4 := L.v4; have tu := L.tu; have au := L.au; have zu := L.zu; have vu := L.vu; have t22 := L.t22; have a22 := L.a22; have z22 := L.z22; have v22 := L.v22; have t25 := L.t25; have a25 := L.a25; have z25 := L.z25; have v25 := L.v25; have aE := L.aE; have zE := L.zE
  have FG := L.g145
  have HC : Aside _ := hcmp
  have S0 : Aside (SWK enc k w0 blk off d w) := S
  have HL : Hid (SortedIn (ltOf cf) a m d) := hl
  have HO : Hid (SWO (ltOf cf)) := Lib.hid hO
  obtain ⟨ma, hma⟩ : ∃ x, x = m - a := ⟨_, rfl⟩
  have q1 : (m : Int) - (a : Int) = (ma : Int) := by omega
  have q1' : ((ma : Int) == 1) = false := by simp; omega
  have q2 : (b : Int) - (m : Int) = 1 := by omega
  have hmas : (ma : Int) < 1152921504606846976 := by omega
  clear S L hcmp hl hO hma
  go_enter FG, Tryz.ntmps266
  go_wp2
  clear q1 q1' q2
  go_loopg [14, 15] (m - a) (fun kx s10 s11 wr => ∃ (i j : Nat), s10 = .int .i64 i ∧ s11 = .int .i64 j ∧ a ≤ i ∧ i ≤ j ∧ j ≤ m ∧ j - i ≤ kx ∧ Aside (SWK enc k w0 blk off d wr) ∧ Hid ((∀ x, a ≤ x → x < i → ltOf cf d[m]! d[x]! = false) ∧ (∀ x, j ≤ x → x < m → ltOf cf d[m]! d[x]! = true)))
  case atStart => exact ⟨a, m, rfl, rfl, by omega, by omega, by omega, by omega, S0, Lib.hid ⟨fun x _ _ => by omega, fun x _ _ => by omega⟩⟩
  case round =>
    clear S0
    obtain ⟨i, j, rfl, rfl, hmi, hij, hjb, hkx, S1, HX⟩ := hrel
    by_cases hlt : i < j
    · have hltz : (i : Int) < (j : Int) := by omega
      obtain ⟨h, hh⟩ : ∃ h, h = (i + j) / 2 := ⟨_, rfl⟩
      have hb1 : (i : Int) + (j : Int) < 4611686018427387904 := by omega
      have hb0 : 0 ≤ (i : Int) + (j : Int) := by omega
      have hhe : ((i : Int) + (j : Int)) / 2 = (h : Int) := by omega
      have hih : i ≤ h := by omega
      have hhj : h < j := by omega
      clear hh
      have hxs : m < d.size := by omega
      have hys : h < d.size := by omega
      cases hlv : ltOf cf d[m]! d[h]! with
      | true =>
        have HN : Hid (∀ x, h ≤ x → x < m → ltOf cf d[m]! d[x]! = true) := Lib.hid fun x h1 h2 => by
          by_cases e : x = h
          · subst e; exact hlv
          · have h3 : ltOf cf d[x]! d[h]! = false := HL.out h x (by omega) (by omega) h2
            cases h4 : ltOf cf d[m]! d[x]! with
            | true => rfl
            | false => exact absurd (HO.out.ntrans _ _ _ h4 h3) (by rw [hlv]; simp)
        have ea : ((m : Nat) : Int).toNat = m := by omega
        have pa : (0 : Int) ≤ (m : Int) := by omega
        have ba : (m : Int) < (d.size : Int) := by omega
        have ec : ((h : Nat) : Int).toNat = h := by omega
        have pc : (0 : Int) ≤ (h : Int) := by omega
        have bc : (h : Int) < (d.size : Int) := by omega
        obtain ⟨vx, hvx⟩ : ∃ z, z = d[m]! := ⟨_, rfl⟩
        obtain ⟨vy, hvy⟩ : ∃ z, z = d[h]! := ⟨_, rfl⟩
        have la := S1.out.ld R (by omega) P m (by omega)
        have lb := S1.out.ld R (by omega) P h (by omega)
        rw [← hvx] at la
        rw [← hvy] at lb
        have hcm := S1.out.cmp HC.out (by omega) vx vy
        have hv : cf vx vy < 0 := by rw [hvx, hvy]; exact of_decide_eq_true hlv
        have hd : decide (cf vx vy < 0) = true := decide_eq_true hv
        clear hvx hvy
        go_wp2_with fail
        go_quiet_grown (first | (go_at_fn g; refine Calls.grown_of (hcm _ _)))
        have S2 : Aside (SWK enc k w0 blk off d (grow (wr.drewN nq) osq)) := S1.out.grown nq osq
        clear la lb hcm S1
        generalize grow (wr.drewN nq) osq = w2 at S2 ⊢
        clear nq osq
        go_wp2
        go_roundg (h - i)
        case measure => omega
        case rel => exact ⟨i, h, rfl, rfl, hmi, by omega, by omega, Nat.le_refl _, S2, Lib.hid ⟨HX.out.1, HN.out⟩⟩
      | false =>
        have HN : Hid (∀ x, a ≤ x → x < h + 1 → ltOf cf d[m]! d[x]! = false) := Lib.hid fun x h1 h2 => by
          by_cases e : x = h
          · subst e; exact hlv
          · have h3 : ltOf cf d[h]! d[x]! = false := HL.out x h h1 (by omega) (by omega)
            exact HO.out.ntrans _ _ _ hlv h3
        have ea : ((m : Nat) : Int).toNat = m := by omega
        have pa : (0 : Int) ≤ (m : Int) := by omega
        have ba : (m : Int) < (d.size : Int) := by omega
        have ec : ((h : Nat) : Int).toNat = h := by omega
        have pc : (0 : Int) ≤ (h : Int) := by omega
        have bc : (h : Int) < (d.size : Int) := by omega
        obtain ⟨vx, hvx⟩ : ∃ z, z = d[m]! := ⟨_, rfl⟩
        obtain ⟨vy, hvy⟩ : ∃ z, z = d[h]! := ⟨_, rfl⟩
        have la := S1.out.ld R (by omega) P m (by omega)
        have lb := S1.out.ld R (by omega) P h (by omega)
        rw [← hvx] at la
        rw [← hvy] at lb
        have hcm := S1.out.cmp HC.out (by omega) vx vy
        have hv : ¬ cf vx vy < 0 := by rw [hvx, hvy]; exact of_decide_eq_false hlv
        have hd : decide (cf vx vy < 0) = false := decide_eq_false hv
        clear hvx hvy
        go_wp2_with fail
        go_quiet_grown (first | (go_at_fn g; refine Calls.grown_of (hcm _ _)))
        have S2 : Aside (SWK enc k w0 blk off d (grow (wr.drewN nq) osq)) := S1.out.grown nq osq
        clear la lb hcm S1
        generalize grow (wr.drewN nq) osq = w2 at S2 ⊢
        clear nq osq
        go_wp2
        go_roundg (j - (h + 1))
        case measure => omega
        case rel => exact ⟨h + 1, j, by go_num, rfl, by omega, by omega, hjb, Nat.le_refl _, S2, Lib.hid ⟨HN.out, HX.out.2⟩⟩
    · have hltz : ¬ (i : Int) < (j : Int) := by omega
      have hje : j = i := by omega
      subst hje
      go_wp2
      go_loopg [17] (m - j) (fun kx s13 wr => ∃ (q : Nat) (dk : Array α), s13 = .int .i64 q ∧ j ≤ q ∧ q ≤ m ∧ q - j ≤ kx ∧ dk.size = d.size ∧ Aside (SWK enc k w0 blk off dk wr) ∧ Hid (Rot q m (m + 1) d dk))
      case atStart => exact ⟨m, d, rfl, by omega, by omega, by omega, rfl, S1, Lib.hid (Rot.none m (m + 1) d)⟩
      case round =>
        clear S1
        obtain ⟨q, dk, rfl, haq, hqj, hkq, hds, S1, HW⟩ := hrel
        by_cases hqs : j < q
        · have hqz : (j : Int) < (q : Int) := by omega
          obtain ⟨y, hy⟩ : ∃ y, y = q - 1 := ⟨_, rfl⟩
          go_wp2_with fail
          have HY : Hid (q = y + 1) := Lib.hid (by omega)
          have wy : (q : Int) - 1 = (y : Int) := by omega
          have hxs : q < d.size := by omega
          have hys : y < d.size := by omega
          have hyj : j ≤ y := by omega
          have hyq : y < q := by omega
          have ea : ((q : Int)).toNat = q := by omega
          have pa : (0 : Int) ≤ (q : Int) := by omega
          have ba : (q : Int) < (d.size : Int) := by omega
          have ec : ((y : Int)).toNat = y := by omega
          have pc : (0 : Int) ≤ (y : Int) := by omega
          have bc : (y : Int) < (d.size : Int) := by omega
          have wy2 : IntKind.i64.wrap ((q : Int) - 1) = (y : Int) := by rw [IntKind.wrap_i64]; omega
          have S2 : Aside (SWK enc k w0 blk off (swp dk q y) ((wr.drew.setCells blk (off + q * k) (enc dk[y]!)).setCells blk (off + y * k) (enc dk[q]!))) := S1.out.swapped R q y (by omega) (by omega)
          have l44a := S1.out.ld1 R (by omega) P q (by omega)
          have l44b := S1.out.ld1 R (by omega) P y (by omega)
          have s44a := S1.out.st1 R (by omega) P q (by omega) dk[y]!
          have s44b := S1.out.st2 R (by omega) P q y (by omega) (by omega) dk[y]! dk[q]!
          have n44a : (enc dk[q]!).length = k := R.hk _
          have n44b : (enc dk[y]!).length = k := R.hk _
          generalize enc dk[q]! = cI44 at S2 l44a s44b n44a
          generalize enc dk[y]! = cJ44 at S2 l44b s44a s44b n44b
          clear S1 hy
          go_big_region_o
          clear l44a l44b s44a s44b
          generalize (wr.drew.setCells blk (off + q * k) cJ44).setCells blk (off + y * k) cI44 = w2 at S2 ⊢
          clear wy2
          go_wp2
          go_roundg (y - j)
          case measure => omega
          case rel => exact ⟨y, swp dk q y, rfl, by omega, by omega, Nat.le_refl _, by rw [Go.Sort.size_swp]; exact hds, S2, by have h := HW.out; rw [HY.out] at h ⊢; exact Lib.hid (h.down (by omega) (by omega))⟩
        · have hqz : ¬ (j : Int) < (q : Int) := by omega
          have hqe : q = j := by omega
          have hm : Mrg (ltOf cf) a (m + 1) d dk := mrg_right HO.out (i := q) HW.out (by omega) (by omega) (by omega) HL.out (fun x h1 h2 => HX.out.1 x (by omega) (by omega)) (fun x h1 h2 => HX.out.2 x (by omega) h2)
          rw [hmb] at hm
          have HM := Lib.hid hm
          clear hm
          go_wp2
          (try simp only [Exit.inBlock, Exit.then]); refine bodyPost_ret (results_none rfl _ _ _) rfl ?_
          exact ⟨rfl, dk, HM.out, S1.out⟩
end
end Go.Proofs.YthiemjodcklejaaGreatDoor

/-
  Walks over a program that is a variable: symMerge of slices.SortStableFunc at the rows of topdown, whole.
-/
namespace Go.Proofs.YthiemjodcklejaaGreatDoor
open Go.Shelf Go.RowKit Go.Lib Go.Sort
section
variable {P : Program} {α : Type} [Inhabited α]
theorem Rot.right (a b : Nat) (d : Array α) : Rot a b b d d := ⟨permIn_refl _ _ _, fun x => (rot_right a b (atA d) x).symm⟩
theorem Mrg.triv {lt : α → α → Bool} {a b : Nat} {d : Array α} (h : SortedIn lt a b d) : Mrg lt a b d d := ⟨permIn_refl _ _ _, h⟩
/-- The search of symMerge: what is known in the range that is still open. -/
structure Srch (lt : α → α → Bool) (p s0 r0 s r : Nat) (d : Array α) : Prop where
  a : s0 ≤ s
  b : s ≤ r
  c : r ≤ r0
  lo : ∀ x, s0 ≤ x → x < s → lt d[p - x]! d[x]! = false
  hi : ∀ x, r ≤ x → x < r0 → lt d[p - x]! d[x]! = true
/-- The bounds of the range. -/
def Ends (a m b mid s0 r0 : Nat) : Prop := (mid < m ∧ s0 = mid + m - b ∧ r0 = mid) ∨ (m ≤ mid ∧ s0 = a ∧ r0 = m)
theorem Srch.up {lt : α → α → Bool} (hO : SWO lt) {a m b mid s0 r0 s r c : Nat} {d : Array α} (h : Srch lt (mid + m - 1) s0 r0 s r d) (he : Ends a m b mid s0 r0) (_ham : a < m) (hmb : m < b) (hmid : mid = (a + b) / 2) (hl : SortedIn lt a m d) (hr : SortedIn lt m b d) (h1 : s ≤ c) (h2 : c < r) (hv : lt d[mid + m - 1 - c]! d[c]! = false) : Srch lt (mid + m - 1) s0 r0 (c + 1) r d := by
  have ha := h.a; have hb := h.b; have hc := h.c
  refine ⟨by omega, by omega, hc, fun x hx1 hx2 => ?_, h.hi⟩
  have e1 : a ≤ x := by rcases he with he | he <;> omega
  have e2 : c < m := by rcases he with he | he <;> omega
  have e3 : m ≤ mid + m - 1 - c := by rcases he with he | he <;> omega
  have e4 : mid + m - 1 - x < b := by rcases he with he | he <;> omega
  exact le_trans' hO (le_trans' hO (sorted_le hO hl e1 (show x ≤ c by omega) e2) hv) (sorted_le hO hr e3 (show mid + m - 1 - c ≤ mid + m - 1 - x by omega) e4)
theorem Srch.down {lt : α → α → Bool} (hO : SWO lt) {a m b mid s0 r0 s r c : Nat} {d : Array α} (h : Srch lt (mid + m - 1) s0 r0 s r d) (he : Ends a m b mid s0 r0) (_ham : a < m) (hmb : m < b) (hmid : mid = (a + b) / 2) (hl : SortedIn lt a m d) (hr : SortedIn lt m b d) (h1 : s ≤ c) (h2 : c < r) (hv : lt d[mid + m - 1 - c]! d[c]! = true) : Srch lt (mid + m - 1) s0 r0 s c d := by
  have ha := h.a; have hb := h.b; have hc := h.c
  refine ⟨ha, h1, by omega, h.lo, fun x hx1 hx2 => ?_⟩
  have e1 : a ≤ c := by rcases he with he | he <;> omega
  have e2 : x < m := by rcases he with he | he <;> omega
  have e3 : m ≤ mid + m - 1 - x := by rcases he with he | he <;> omega
  have e4 : mid + m - 1 - c < b := by rcases he with he | he <;> omega
  cases hx : lt d[mid + m - 1 - x]! d[x]! with
  | true => rfl
  | false =>
    have := le_trans' hO (le_trans' hO (sorted_le hO hl e1 hx1 e2) hx) (sorted_le hO hr e3 (show mid + m - 1 - x ≤ mid + m - 1 - c by omega) e4)
    rw [this] at hv; cases hv
theorem Srch.cut {lt : α → α → Bool} {a m b mid s0 r0 s : Nat} {d : Array α} (h : Srch lt (mid + m - 1) s0 r0 s s d) (he : Ends a m b mid s0 r0) (ham : a < m) (hmb : m < b) (hmid : mid = (a + b) / 2) : Cutd lt a m b mid s d := by
  have ha := h.a; have hc := h.c
  refine ⟨by rcases he with he | he <;> omega, by rcases he with he | he <;> omega, by rcases he with he | he <;> omega, by rcases he with he | he <;> omega, by rcases he with he | he <;> omega, ?_, ?_⟩
  · by_cases e : s = s0
    · rcases he with he | he
      · exact .inl ⟨he.1, by omega⟩
      · exact .inr (.inl ⟨he.1, by omega⟩)
    · have := h.lo (s - 1) (by omega) (by omega)
      rw [show mid + m - 1 - (s - 1) = mid + m - s by rcases he with he | he <;> omega] at this
      exact .inr (.inr ⟨by rcases he with he | he <;> omega, by rcases he with he | he <;> omega, this⟩)
  · by_cases e : s = r0
    · rcases he with he | he
      · exact .inl ⟨he.1, by omega⟩
      · exact .inr (.inl ⟨he.1, by omega⟩)
    · have := h.hi s (Nat.le_refl _) (by omega)
      rw [show mid + m - 1 - s = mid + m - s - 1 by omega] at this
      exact .inr (.inr ⟨by rcases he with he | he <;> omega, by rcases he with he | he <;> omega, this⟩)
/-- The parts behind the turn are sorted. -/
theorem Rot.sorted {lt : α → α → Bool} {a m b mid s : Nat} {d d1 : Array α} (hR : Rot s m (mid + m - s) d d1) (hc : Cutd lt a m b mid s d) (hl : SortedIn lt a m d) (hr : SortedIn lt m b d) :
    SortedIn lt a s d1 ∧ SortedIn lt s mid d1 ∧ SortedIn lt mid (mid + m - s) d1 ∧ SortedIn lt (mid + m - s) b d1 := by
  obtain ⟨c1, c2, c3, c4, c5, _, _⟩ := hc
  refine ⟨fun i j hi hij hj => ?_, fun i j hi hij hj => ?_, fun i j hi hij hj => ?_, fun i j hi hij hj => ?_⟩ <;> rw [hR.2, hR.2] <;> unfold rotF atA
  · rw [if_neg (by omega), if_neg (by omega), if_neg (by omega), if_neg (by omega)]
    exact hl i j hi hij (by omega)
  · rw [if_pos (by omega), if_pos (by omega)]
    exact hr _ _ (by omega) (by omega) (by omega)
  · rw [if_neg (by omega), if_pos (by omega), if_neg (by omega), if_pos (by omega)]
    exact hl _ _ (by omega) (by omega) (by omega)
  · rw [if_neg (by omega), if_neg (by omega), if_neg (by omega), if_neg (by omega)]
    exact hr i j (by omega) hij hj
set_option maxHeartbeats 16000000 in
set_option maxRecDepth 1000000 in
theorem symMerge_o (k : Nat) (L : StL P k) (enc : α → List Value) (cf : α → α → Int) (hO : SWO (ltOf cf)) (g : Nat) (cb : Array Value) (eg : ∀ args w, (callFunc g args).run P w = .ok (.enter g args) w) (blk off cap : Nat) (d0 : Array α) (w0 : World)
    (hcmp : CmpLays P g cb enc k cf blk off d0.size w0) (R : RowK enc k w0 blk off d0) (hsz : d0.size < 1152921504606846976) : ∀ (N a m b : Nat) (d : Array α) (w : World), b - a ≤ N → d0.size = d.size → SWK enc k w0 blk off d w → a < m → m < b → b ≤ d.size → SortedIn (ltOf cf) a m d → SortedIn (ltOf cf) m b d →
    Calls P 266 #[.slice (some ⟨blk, off, none⟩) d0.size cap, .int .i64 a, .int .i64 m, .int .i64 b, .func (.func g) #[] cb] w fun e w' => e = .returned (.tuple #[]) ∧ ∃ dn, Mrg (ltOf cf) a b d dn ∧ SWK enc k w0 blk off dn w' := by
  intro N
  induction N with
  | zero => intro a m b d w h _ _ h1 h2; omega
  | succ N ih =>
    intro a m b d w hN hs S ham hmb hb hl hr
    by_cases c1 : a + 1 = m
    · have := symLeft_o k L enc cf hO g cb eg blk off cap a m b d0 d w0 w hcmp R hs S c1 hmb hb (by omega) hr
      rw [← hs] at this; exact this
    by_cases c2 : m + 1 = b
    · have := symRight_o k L enc cf hO g cb eg blk off cap a m b d0 d w0 w hcmp R hs S ham c1 c2 hb (by omega) hl
      rw [← hs] at this; exact this
    have mixed := L.mixed; have t0 := L.t0; have a0 := L.a0; have z0 := L.z0; have v0 := L.v0; have t3 := L.t3; have a3 := L.a3; have z3 := L.z3; have v3 := L.v3; have t4 := L.t4; have a4 := L.a4; have z4 := L.z4; have v4 := L.v4; have tu := L.tu; have au := L.au; have zu := L.zu; have vu := L.vu; have t22 := L.t22; have a22 := L.a22; have z22 := L.z22; have v22 := L.v22; have t25 := L.t25; have a25 := L.a25; have z25 := L.z25; have v25 := L.v25; have aE := L.aE; have zE := L.zE
    have FG := L.g145
    have e147 : ∀ args w, (callFunc 271 args).run P w = .ok (.enter 271 args) w := enters_of L.g147 (by kernel_rfl) rfl
    have e145 : ∀ args w, (callFunc 266 args).run P w = .ok (.enter 266 args) w := enters_of L.g145 (by kernel_rfl) rfl
    have HROT : Hid (∀ (a m b : Nat) (d : Array α) (w : World), d0.size = d.size → SWK enc k w0 blk off d w → a < m → m < b → b ≤ d.size →
      Calls P 271 #[.slice (some ⟨blk, off, none⟩) d0.size cap, .int .i64 a, .int .i64 m, .int .i64 b, .func (.func g) #[] cb] w fun e w' => e = .returned (.tuple #[]) ∧ ∃ dn, Rot a m b d dn ∧ SWK enc k w0 blk off dn w') :=
      Lib.hid fun a m b d w h1 h2 h3 h4 h5 => by
        have := rotate_o k L enc g cb blk off cap a m b d0 d w0 w R h1 h2 h3 h4 h5 (by omega)
        rw [← h1] at this; exact this
    have IH := Lib.hid ih
    have HC : Aside _ := hcmp
    have S0 : Aside (SWK enc k w0 blk off d w) := S
    have HL : Hid (SortedIn (ltOf cf) a m d) := hl
    have HR : Hid (SortedIn (ltOf cf) m b d) := hr
    have HO : Hid (SWO (ltOf cf)) := Lib.hid hO
    have hs1 : d.size ≤ d0.size := by omega
    have hs2 : d0.size ≤ d.size := by omega
    obtain ⟨mid, hmid⟩ : ∃ x, x = (a + b) / 2 := ⟨_, rfl⟩
    obtain ⟨nn, hnn⟩ : ∃ x, x = mid + m := ⟨_, rfl⟩
    obtain ⟨ma, hma⟩ : ∃ x, x = m - a := ⟨_, rfl⟩
    obtain ⟨bm, hbm⟩ : ∃ x, x = b - m := ⟨_, rfl⟩
    obtain ⟨s0, r0, hends⟩ : ∃ s0 r0, Ends a m b mid s0 r0 := by
      by_cases c : mid < m
      · exact ⟨_, _, .inl ⟨c, rfl, rfl⟩⟩
      · exact ⟨_, _, .inr ⟨by omega, rfl, rfl⟩⟩
    have HE : Hid (Ends a m b mid s0 r0) := hends
    have HMID : Hid (mid = (a + b) / 2) := hmid
    have HNN : Hid (nn = mid + m) := hnn
    have q1 : (m : Int) - (a : Int) = (ma : Int) := by omega
    have q1' : ((ma : Int) == 1) = false := by simp; omega
    have q2 : (b : Int) - (m : Int) = (bm : Int) := by omega
    have q2' : ((bm : Int) == 1) = false := by simp; omega
    have hmas : (ma : Int) < 1152921504606846976 := by omega
    have hbms : (bm : Int) < 1152921504606846976 := by omega
    have q3 : ((a : Int) + (b : Int)) / 2 = (mid : Int) := by omega
    have hab0 : 0 ≤ (a : Int) + (b : Int) := by omega
    have hab9 : (a : Int) + (b : Int) < 4611686018427387904 := by omega
    have q4 : (mid : Int) + (m : Int) = (nn : Int) := by omega
    have hnn9 : (nn : Int) < 4611686018427387904 := by omega
    obtain ⟨nb, hnb⟩ : ∃ x, x = nn - b := ⟨_, rfl⟩
    obtain ⟨p, hp⟩ : ∃ x, x = nn - 1 := ⟨_, rfl⟩
    have q6 : (nn : Int) - 1 = (p : Int) := by omega
    have hp9 : (p : Int) < 4611686018427387904 := by omega
    have HP : Hid (p = mid + m - 1) := by show _ = _; omega
    clear hends
    clear S hcmp hl hr hO hmid hnn hma hbm ih c1 c2 hp HE hs s0 r0
    obtain ⟨b0, hb0⟩ : ∃ x, decide (mid < m) = x := ⟨_, rfl⟩
    go_enter FG, Tryz.ntmps266
    go_upto_if 140 with fail
    have HB0 := Lib.hid hb0
    clear hb0
    go_cut [20, 21] from 141 to 146 (fun v20 v21 wx => ∃ s0 r0 : Nat, v20 = .int .i64 s0 ∧ v21 = .int .i64 r0 ∧ Hid (Ends a m b mid s0 r0) ∧ Aside (SWK enc k w0 blk off d wx))
    case first =>
      cases b0 with
      | true =>
        have c : mid < m := by have := of_decide_eq_true HB0.out; omega
        have q5 : (nn : Int) - (b : Int) = (nb : Int) := by have h1 := HNN.out; have h2 := HMID.out; omega
        have HE : Hid (Ends a m b mid nb mid) := Lib.hid (.inl ⟨c, by have h1 := HNN.out; omega, rfl⟩)
        clear hnb c
        go_wp2_with fail
        go_meet
        exact ⟨nb, mid, rfl, rfl, HE, S0⟩
      | false =>
        have c : ¬ mid < m := by have := of_decide_eq_false HB0.out; omega
        have HE : Hid (Ends a m b mid a m) := Lib.hid (.inr ⟨by omega, rfl, rfl⟩)
        clear hnb c
        go_wp2_with fail
        go_meet
        exact ⟨a, m, rfl, rfl, HE, S0⟩
    case rest => as_aux_lemma =>
      clear S0
      obtain ⟨s0, r0, rfl, rfl, HE, S0⟩ := hcut
      have hr0 : r0 ≤ m ∧ r0 ≤ mid ∧ a ≤ s0 ∧ s0 ≤ r0 ∧ nn - s0 ≤ b ∧ m ≤ nn - r0 := by have h1 := HNN.out; have h2 := HMID.out; rcases HE.out with h | h <;> omega
      obtain ⟨g1, g2, g3, g4, g5, g6⟩ := hr0
      have hS0 : Hid (∃ s0' r0', Ends a m b mid s0' r0' ∧ Srch (ltOf cf) (mid + m - 1) s0' r0' s0 r0 d) := Lib.hid ⟨s0, r0, HE.out, ⟨Nat.le_refl _, g4, Nat.le_refl _, fun x _ _ => by omega, fun x _ _ => by omega⟩⟩
      clear hnb HE
      go_wp2
      go_loopg [20, 21] (r0 - s0) (fun kx s20 s21 wr => ∃ (s r : Nat), s20 = .int .i64 s ∧ s21 = .int .i64 r ∧ a ≤ s ∧ s ≤ r ∧ r ≤ m ∧ r ≤ mid ∧ nn - s ≤ b ∧ m ≤ nn - r ∧ r - s ≤ kx ∧ Aside (SWK enc k w0 blk off d wr) ∧ Hid (∃ s0' r0', Ends a m b mid s0' r0' ∧ Srch (ltOf cf) (mid + m - 1) s0' r0' s r d))
      case atStart => exact ⟨s0, r0, rfl, rfl, g3, g4, g1, g2, g5, g6, Nat.le_refl _, S0, hS0⟩
      case round => as_aux_lemma =>
        clear S0 hS0
        obtain ⟨s, r, rfl, rfl, has, hsr, hrm, hrmid, hsb, hrn, hkx, S1, HX⟩ := hrel
        by_cases hlt : s < r
        · have hltz : (s : Int) < (r : Int) := by omega
          obtain ⟨c, hc⟩ : ∃ c, c = (s + r) / 2 := ⟨_, rfl⟩
          have hb1 : (s : Int) + (r : Int) < 4611686018427387904 := by omega
          have hb0 : 0 ≤ (s : Int) + (r : Int) := by omega
          have hce : ((s : Int) + (r : Int)) / 2 = (c : Int) := by omega
          have hsc : s ≤ c := by omega
          have hcr : c < r := by omega
          obtain ⟨y, hy⟩ : ∃ y, y = mid + m - 1 - c := ⟨_, rfl⟩
          have hyp : (p : Int) - (c : Int) = (y : Int) := by have := HP.out; omega
          have hy9 : (y : Int) < 4611686018427387904 := by omega
          have hyb : y < b := by have := HNN.out; omega
          have hcb : c < d.size := by omega
          have hyd : y < d.size := by omega
          have HYM := Lib.hid hy
          clear hc
          cases hlv : ltOf cf d[y]! d[c]! with
          | true => as_aux_lemma =>
            have HN : Hid (∃ s0' r0', Ends a m b mid s0' r0' ∧ Srch (ltOf cf) (mid + m - 1) s0' r0' s c d) := by
              obtain ⟨x0, x1, h1, h2⟩ := HX.out
              exact Lib.hid ⟨x0, x1, h1, h2.down HO.out h1 ham hmb HMID.out HL.out HR.out hsc hcr (by rw [← hy]; exact hlv)⟩
            have hcn : m ≤ nn - c := by have := HNN.out; omega
            clear hy
            have ea : ((y : Nat) : Int).toNat = y := by omega
            have pa : (0 : Int) ≤ (y : Int) := by omega
            have ba : (y : Int) < (d0.size : Int) := by omega
            have ec : ((c : Nat) : Int).toNat = c := by omega
            have pc : (0 : Int) ≤ (c : Int) := by omega
            have bc : (c : Int) < (d0.size : Int) := by omega
            obtain ⟨vx, hvx⟩ : ∃ z, z = d[y]! := ⟨_, rfl⟩
            obtain ⟨vy, hvy⟩ : ∃ z, z = d[c]! := ⟨_, rfl⟩
            have la := S1.out.ld R (by omega) P y (by omega)
            have lb := S1.out.ld R (by omega) P c (by omega)
            rw [← hvx] at la
            rw [← hvy] at lb
            have hcm := S1.out.cmp HC.out (by omega) vx vy
            have hv : cf vx vy < 0 := by rw [hvx, hvy]; exact of_decide_eq_true hlv
            have hd : decide (cf vx vy < 0) = true := decide_eq_true hv
            clear hvx hvy
            have hyw : IntKind.i64.wrap (y : Int) = (y : Int) := by rw [IntKind.wrap_i64]; omega
            go_wp2_with fail
            go_quiet_grown (first | (go_at_fn g; refine Calls.grown_of (hcm _ _)))
            have S2 : Aside (SWK enc k w0 blk off d (grow (wr.drewN nq) osq)) := S1.out.grown nq osq
            clear la lb hcm S1 hyw
            generalize grow (wr.drewN nq) osq = w2 at S2 ⊢
            clear nq osq
            go_wp2
            go_roundg (c - s)
            case measure => omega
            case rel => exact ⟨s, c, rfl, rfl, has, hsc, by omega, by omega, hsb, hcn, Nat.le_refl _, S2, HN⟩
          | false => as_aux_lemma =>
            have HN : Hid (∃ s0' r0', Ends a m b mid s0' r0' ∧ Srch (ltOf cf) (mid + m - 1) s0' r0' (c + 1) r d) := by
              obtain ⟨x0, x1, h1, h2⟩ := HX.out
              exact Lib.hid ⟨x0, x1, h1, h2.up HO.out h1 ham hmb HMID.out HL.out HR.out hsc hcr (by rw [← hy]; exact hlv)⟩
            clear hy
            have ea : ((y : Nat) : Int).toNat = y := by omega
            have pa : (0 : Int) ≤ (y : Int) := by omega
            have ba : (y : Int) < (d0.size : Int) := by omega
            have ec : ((c : Nat) : Int).toNat = c := by omega
            have pc : (0 : Int) ≤ (c : Int) := by omega
            have bc : (c : Int) < (d0.size : Int) := by omega
            obtain ⟨vx, hvx⟩ : ∃ z, z = d[y]! := ⟨_, rfl⟩
            obtain ⟨vy, hvy⟩ : ∃ z, z = d[c]! := ⟨_, rfl⟩
            have la := S1.out.ld R (by omega) P y (by omega)
            have lb := S1.out.ld R (by omega) P c (by omega)
            rw [← hvx] at la
            rw [← hvy] at lb
            have hcm := S1.out.cmp HC.out (by omega) vx vy
            have hv : ¬ cf vx vy < 0 := by rw [hvx, hvy]; exact of_decide_eq_false hlv
            have hd : decide (cf vx vy < 0) = false := decide_eq_false hv
            clear hvx hvy
            have hyw : IntKind.i64.wrap (y : Int) = (y : Int) := by rw [IntKind.wrap_i64]; omega
            go_wp2_with fail
            go_quiet_grown (first | (go_at_fn g; refine Calls.grown_of (hcm _ _)))
            have S2 : Aside (SWK enc k w0 blk off d (grow (wr.drewN nq) osq)) := S1.out.grown nq osq
            clear la lb hcm S1 hyw
            generalize grow (wr.drewN nq) osq = w2 at S2 ⊢
            clear nq osq
            go_wp2
            go_roundg (r - (c + 1))
            case measure => omega
            case rel => exact ⟨c + 1, r, by go_num, rfl, by omega, by omega, hrm, hrmid, by omega, hrn, Nat.le_refl _, S2, HN⟩
        · have hltz : ¬ (s : Int) < (r : Int) := by omega
          have hre : r = s := by omega
          subst hre
          have hcut : Cutd (ltOf cf) a m b mid r d := by
            obtain ⟨x0, x1, h1, h2⟩ := HX.out
            exact h2.cut h1 ham hmb HMID.out
          have HCUT : Hid (Cutd (ltOf cf) a m b mid r d) := hcut
          obtain ⟨e, he⟩ : ∃ e, e = nn - r := ⟨_, rfl⟩
          have q8 : (nn : Int) - (r : Int) = (e : Int) := by omega
          have he9 : (e : Int) < 4611686018427387904 := by omega
          have HEE : Hid (e = mid + m - r) := by show _ = _; have := HNN.out; omega
          have heb : e ≤ b := by omega
          have hme : m ≤ e := by omega
          have hmide : mid ≤ e := by have := HNN.out; omega
          have hamid : a < mid := by have := HMID.out; omega
          have hmidb : mid < b := by have := HMID.out; omega
          clear hcut he HX hltz
          go_upto_region 39 with fail
          obtain ⟨b1, hb1⟩ : ∃ x : Bool, x = decide (r < m ∧ m < e) := ⟨_, rfl⟩
          have HB1 := Lib.hid hb1
          clear hb1
          go_cut [185] (fun v wx => v = .bool b1 ∧ Aside (SWK enc k w0 blk off d wx))
          case first => as_aux_lemma =>
            by_cases h1 : r < m
            · have h1' : (r : Int) < (m : Int) := by omega
              by_cases h2 : m < e
              · have h2' : (m : Int) < (e : Int) := by omega
                have hb : b1 = true := by rw [HB1.out]; simp [h1, h2]
                subst hb
                go_wp2_with fail
                go_meet
                exact ⟨rfl, S1⟩
              · have h2' : ¬ (m : Int) < (e : Int) := by omega
                have hb : b1 = false := by rw [HB1.out]; simp [h2]
                subst hb
                go_wp2_with fail
                go_meet
                exact ⟨rfl, S1⟩
            · have h1' : ¬ (r : Int) < (m : Int) := by omega
              have hb : b1 = false := by rw [HB1.out]; simp [h1]
              subst hb
              go_wp2_with fail
              go_meet
              exact ⟨rfl, S1⟩
          case rest => as_aux_lemma =>
            clear S1
            obtain ⟨rfl, S1⟩ := hcut
            have hrot : Hid (Rot r m e d d ∨ b1 = true) := by
              rcases Nat.lt_or_ge r m with h1 | h1
              · rcases Nat.lt_or_ge m e with h2 | h2
                · exact Lib.hid (.inr (by rw [HB1.out]; simp [h1, h2]))
                · have : e = m := by omega
                  rw [this]; exact Lib.hid (.inl (Rot.right r m d))
              · have : r = m := by omega
                rw [this]; exact Lib.hid (.inl (Rot.none m e d))
            go_upto_if 185 with fail
            go_cut [] (fun wx => ∃ d1 : Array α, Aside (SWK enc k w0 blk off d1 wx) ∧ Hid (Rot r m e d d1))
            case first => as_aux_lemma =>
              cases b1 with
              | true =>
                have hc1 : r < m ∧ m < e := by have := HB1.out; simpa using this.symm
                have HCR := Lib.hid (HROT.out r m e d wc (by omega) S1.out hc1.1 hc1.2 (by omega))
                clear hc1
                go_wp2_with (go_at_fn 271; refine HCR.out.mono ?_; rintro e' w2 ⟨rfl, d1, hr1, hs1'⟩)
                go_meet
                exact ⟨d1, hs1', Lib.hid hr1⟩
              | false =>
                go_wp2_with fail
                go_meet
                exact ⟨d, S1, Lib.hid (by rcases hrot.out with h | h; exact h; cases h)⟩
            case rest => as_aux_lemma =>
              clear S1 HB1 hrot
              obtain ⟨d1, S1, HRT⟩ := hcut
              have hd1 : d1.size = d.size := HRT.out.1.1
              have hd1a : d1.size ≤ d.size := by omega
              have hd1b : d.size ≤ d1.size := by omega
              have hsorted := HRT.out
              rw [HEE.out] at hsorted
              have hsrt := hsorted.sorted HCUT.out HL.out HR.out
              rw [← HEE.out] at hsrt
              have HSRT := Lib.hid hsrt
              clear hsorted hsrt hd1
              clear b1
              go_upto_region 41 with fail
              obtain ⟨b2, hb2⟩ : ∃ q : Bool, q = decide (a < r ∧ r < mid) := ⟨_, rfl⟩
              have HB := Lib.hid hb2
              clear hb2
              go_cut [199] (fun v wx => v = .bool b2 ∧ Aside (SWK enc k w0 blk off d1 wx))
              case first => as_aux_lemma =>
                by_cases h1 : a < r
                · have h1' : (a : Int) < (r : Int) := by omega
                  by_cases h2 : r < mid
                  · have h2' : (r : Int) < (mid : Int) := by omega
                    have hb : b2 = true := by rw [HB.out]; simp [h1, h2]
                    subst hb
                    go_wp2_with fail
                    go_meet
                    exact ⟨rfl, S1⟩
                  · have h2' : ¬ (r : Int) < (mid : Int) := by omega
                    have hb : b2 = false := by rw [HB.out]; simp [h2]
                    subst hb
                    go_wp2_with fail
                    go_meet
                    exact ⟨rfl, S1⟩
                · have h1' : ¬ (a : Int) < (r : Int) := by omega
                  have hb : b2 = false := by rw [HB.out]; simp [h1]
                  subst hb
                  go_wp2_with fail
                  go_meet
                  exact ⟨rfl, S1⟩
              case rest => as_aux_lemma =>
                clear S1
                obtain ⟨rfl, S1⟩ := hcut
                go_upto_if 199 with fail
                go_cut [] (fun wx => ∃ d2 : Array α, Aside (SWK enc k w0 blk off d2 wx) ∧ Hid (Mrg (ltOf cf) a mid d1 d2))
                case first => as_aux_lemma =>
                  cases b2 with
                  | true =>
                    have hc1 : a < r ∧ r < mid := by have := HB.out; simpa using this.symm
                    have HCR := Lib.hid (IH.out a r mid d1 wc (by omega) (by omega) S1.out hc1.1 hc1.2 (by omega) HSRT.out.1 HSRT.out.2.1)
                    clear hc1
                    go_wp2_with (go_at_fn 266; refine HCR.out.mono ?_; rintro e' w2 ⟨rfl, d2, hr1, hs1'⟩)
                    go_meet
                    exact ⟨d2, hs1', Lib.hid hr1⟩
                  | false =>
                    have HT : Hid (Mrg (ltOf cf) a mid d1 d1) := Lib.hid (Mrg.triv (by
                      have h0 := HB.out
                      have h1 : ¬ (a < r ∧ r < mid) := by simpa using h0.symm
                      rcases Nat.lt_or_ge a r with h2 | h2
                      · have h3 : r = mid := by omega
                        rw [← h3]; exact HSRT.out.1
                      · have h3 : r = a := by omega
                        have h4 := HSRT.out.2.1
                        rw [h3] at h4; exact h4))
                    go_wp2_with fail
                    go_meet
                    exact ⟨_, S1, HT⟩
                case rest => as_aux_lemma =>
                  clear S1 HB
                  obtain ⟨d2, S1, HM_d2⟩ := hcut
                  have hd2 : d2.size = d1.size := HM_d2.out.1.1
                  have hd2a : d2.size ≤ d1.size := by omega
                  have hd2b : d1.size ≤ d2.size := by omega
                  have HS2 : Hid (SortedIn (ltOf cf) mid e d2 ∧ SortedIn (ltOf cf) e b d2) := by
                    have hc := fun i (h1 : mid ≤ i) => HM_d2.out.1.2.1 i (.inr h1)
                    exact Lib.hid ⟨HSRT.out.2.2.1.congr fun i h1 _ => hc i h1, HSRT.out.2.2.2.congr fun i h1 _ => hc i (by omega)⟩
                  clear hd2 b2
                  go_upto_region 43 with fail
                  obtain ⟨b3, hb3⟩ : ∃ q : Bool, q = decide (mid < e ∧ e < b) := ⟨_, rfl⟩
                  have HB := Lib.hid hb3
                  clear hb3
                  go_cut [213] (fun v wx => v = .bool b3 ∧ Aside (SWK enc k w0 blk off d2 wx))
                  case first => as_aux_lemma =>
                    by_cases h1 : mid < e
                    · have h1' : (mid : Int) < (e : Int) := by omega
                      by_cases h2 : e < b
                      · have h2' : (e : Int) < (b : Int) := by omega
                        have hb : b3 = true := by rw [HB.out]; simp [h1, h2]
                        subst hb
                        go_wp2_with fail
                        go_meet
                        exact ⟨rfl, S1⟩
                      · have h2' : ¬ (e : Int) < (b : Int) := by omega
                        have hb : b3 = false := by rw [HB.out]; simp [h2]
                        subst hb
                        go_wp2_with fail
                        go_meet
                        exact ⟨rfl, S1⟩
                    · have h1' : ¬ (mid : Int) < (e : Int) := by omega
                      have hb : b3 = false := by rw [HB.out]; simp [h1]
                      subst hb
                      go_wp2_with fail
                      go_meet
                      exact ⟨rfl, S1⟩
                  case rest => as_aux_lemma =>
                    clear S1
                    obtain ⟨rfl, S1⟩ := hcut
                    have hf : Hid (∀ d3 : Array α, Mrg (ltOf cf) mid b d2 d3 → Mrg (ltOf cf) a b d d3) := Lib.hid fun d3 h3 => mrg_parts HO.out ham hmb HMID.out hb HL.out HR.out HCUT.out (by have h := HRT.out; rw [HEE.out] at h; exact h) HM_d2.out h3
                    cases b3 with
                    | true =>
                      have hc1 : mid < e ∧ e < b := by have := HB.out; simpa using this.symm
                      have HCR := Lib.hid (IH.out mid e b d2 wc (by omega) (by omega) S1.out hc1.1 hc1.2 (by omega) HS2.out.1 HS2.out.2)
                      clear hc1
                      go_wp2_with (go_at_fn 266; refine HCR.out.mono ?_; rintro e' w2 ⟨rfl, d3, hr1, hs1'⟩)
                      go_end0
                      exact ⟨rfl, d3, hf.out d3 hr1, hs1'⟩
                    | false =>
                      have HT : Hid (Mrg (ltOf cf) mid b d2 d2) := Lib.hid (Mrg.triv (by
                        have h0 := HB.out
                        have h1 : ¬ (mid < e ∧ e < b) := by simpa using h0.symm
                        rcases Nat.lt_or_ge mid e with h2 | h2
                        · have h3 : e = b := by omega
                          rw [← h3]; exact HS2.out.1
                        · have h3 : e = mid := by omega
                          have h4 := HS2.out.2
                          rw [h3] at h4; exact h4))
                      go_wp2_with fail
                      go_end0
                      exact ⟨rfl, d2, hf.out d2 HT.out, S1.out⟩

end
end Go.Proofs.YthiemjodcklejaaGreatDoor

/-
  Walks: slices.SortStableFunc at the rows of topdown: the row behind it is a permutation, sorted.
-/
namespace Go.Proofs.YthiemjodcklejaaGreatDoor
open Go.Shelf Go.RowKit Go.Lib Go.Sort

section
variable {α : Type} [Inhabited α] {lt : α → α → Bool}
theorem dvd_step {k x a : Nat} (h1 : k ∣ x) (h2 : k ∣ a) (h : x < a) : x + k ≤ a := by
  obtain ⟨u, rfl⟩ := h1
  obtain ⟨v, rfl⟩ := h2
  have : u < v := Nat.lt_of_mul_lt_mul_left h
  have := Nat.mul_le_mul_left k (show u + 1 ≤ v from this)
  rw [Nat.mul_add, Nat.mul_one] at this
  exact this
/-- Sorted in each block of k below a. -/
def Blks (lt : α → α → Bool) (k a : Nat) (d : Array α) : Prop := ∀ x, k ∣ x → x < a → SortedIn lt x (x + k) d
/-- Sorted in each block of k from a on. -/
def BlkF (lt : α → α → Bool) (k a n : Nat) (d : Array α) : Prop := ∀ x, k ∣ x → a ≤ x → SortedIn lt x (min (x + k) n) d
theorem Blks.step {k a : Nat} {d d' : Array α} (h : Blks lt k a d) (ha : k ∣ a) (hm : Mrg lt a (a + k) d d') : Blks lt k (a + k) d' := by
  intro x hx hxa
  by_cases e : x < a
  · have := dvd_step hx ha e
    exact (h x hx e).congr fun i _ h2 => hm.1.2.1 i (.inl (by omega))
  · have : x = a := by
      by_cases e2 : a < x
      · have := dvd_step ha hx e2; omega
      · omega
    subst this; exact hm.2
theorem Blks.last {k a n : Nat} {d d' : Array α} (h : Blks lt k a d) (ha : k ∣ a) (han : a ≤ n) (hn : n < a + k) (hm : Mrg lt a n d d') : BlkF lt k 0 n d' := by
  intro x hx _
  by_cases e : x < a
  · have := dvd_step hx ha e
    rw [Nat.min_eq_left (by omega)]
    exact (h x hx e).congr fun i _ h2 => hm.1.2.1 i (.inl (by omega))
  · by_cases e2 : a < x
    · have := dvd_step ha hx e2
      rw [Nat.min_eq_right (by omega)]
      exact fun i j h1 h2 h3 => by omega
    · have : x = a := by omega
      subst this
      rw [Nat.min_eq_right (by omega)]
      exact hm.2
theorem BlkF.step {k a n b : Nat} {d d' : Array α} (h : BlkF lt k a n d) (hab : a ≤ b) (hp : PermIn a b d d') : BlkF lt k b n d' := fun x hx hxb =>
  (h x hx (by omega)).congr fun i h1 _ => hp.2.1 i (.inr (by omega))
theorem insMrg (hO : SWO lt) (d : Array α) (a b : Nat) (hab : a ≤ b) (hb : b ≤ d.size) : Mrg lt a b d (Sort.insertionSort lt d a b) := by
  have h := insertionSort_holds hO d a b hab hb
  exact ⟨h.1, h.2⟩
end
def rowLays_ren : Go.Shelf.Ren := ⟨fun | 20 => 265 | n => n, fun | 24 => 121 | 22 => 115 | 3 => 3 | 25 => 205 | 4 => 4 | 0 => 0 | n => n, fun | n => n⟩
theorem rowLays : Go.Proofs.SlLaysF0.n20 Tryz.prog rowLays_ren := {
  mixed := by kernel_rfl
  f20 := ⟨Tryz.f265.name, by decide, Tryz.func265.trans (congrArg some (by kernel_rfl))⟩
  t0 := Tryz.underlying0
  a0 := Tryz.isAgg0
  z0 := Tryz.sizeOf0
  v0 := Tryz.zeroValue0
  t3 := Tryz.underlying3
  a3 := Tryz.isAgg3
  z3 := Tryz.sizeOf3
  v3 := Tryz.zeroValue3
  t4 := Tryz.underlying4
  a4 := Tryz.isAgg4
  z4 := Tryz.sizeOf4
  v4 := Tryz.zeroValue4
  t22 := Tryz.underlying115
  a22 := Tryz.isAgg115
  z22 := Tryz.sizeOf115
  v22 := Tryz.zeroValue115
  t25 := Tryz.underlying205
  a25 := Tryz.isAgg205
  z25 := Tryz.sizeOf205
  v25 := Tryz.zeroValue205 }
theorem cmpLaysR (blk off size : Nat) (w : World) : CmpLays Tryz.prog 205 #[] encR 3 cfR blk off size w := fun _ _ _ _ x y => leastCmp x y _
theorem rowK_of {blk off : Nat} {d : Array Nat} {w : World} (hH : HoldsK encR 3 w blk off d) (hb : blk < w.heap.size) : RowK encR 3 w blk off d where
  hk _ := rfl
  h1 x v hv := by simp [encR, rcells] at hv; rcases hv with rfl | rfl | rfl <;> rfl
  hH := hH
  hblk := hb
set_option maxHeartbeats 8000000 in
set_option maxRecDepth 1000000 in
theorem stable_any (blk off cap : Nat) (d : Array Nat) (w0 : World) (hH : HoldsK encR 3 w0 blk off d) (hblk : blk < w0.heap.size) (hsz : d.size ≤ 1000000000) :
    Calls Tryz.prog 246 #[.slice (some ⟨blk, off, none⟩) d.size cap, .int .i64 d.size, .func (.func 205) #[] #[]] w0 fun e w' => e = .returned (.tuple #[]) ∧ ∃ dn, Mrg (ltOf cfR) 0 d.size d dn ∧ SWK encR 3 w0 blk off dn w' := by
  have R := rowK_of hH hblk
  have eg : ∀ args w, (callFunc 205 args).run Tryz.prog w = .ok (.enter 205 args) w := enters_of Tryz.func205 (by kernel_rfl) rfl
  have HINS : Hid (∀ (a b : Nat) (dk : Array Nat) (w : World), dk.size = d.size → SWK encR 3 w0 blk off dk w → a ≤ b → b ≤ d.size →
      Calls Tryz.prog 265 #[.slice (some ⟨blk, off, none⟩) d.size cap, .int .i64 a, .int .i64 b, .func (.func 205) #[] #[]] w fun e w' => e = .returned (.tuple #[]) ∧ ∃ dn, Mrg (ltOf cfR) a b dk dn ∧ SWK encR 3 w0 blk off dn w') :=
    Lib.hid fun a b dk w h1 h2 h3 h4 => by
      have := AnyQ.insertionSortCmpFunc_w (P := Tryz.prog) rowLays 3 Tryz.isAgg121 Tryz.sizeOf121 encR cfR 205 #[] blk off cap a b d dk w0 w eg (cmpLaysR blk off d.size w0) R h1.symm h2 swoR h3 (by omega) (by omega)
      rw [h1] at this
      exact this.mono fun e w' ⟨he, hw⟩ => ⟨he, _, insMrg swoR dk a b h3 (by omega), hw⟩
  have HSYM : Hid (∀ (a m b : Nat) (dk : Array Nat) (w : World), dk.size = d.size → SWK encR 3 w0 blk off dk w → a < m → m < b → b ≤ d.size → SortedIn (ltOf cfR) a m dk → SortedIn (ltOf cfR) m b dk →
      Calls Tryz.prog 266 #[.slice (some ⟨blk, off, none⟩) d.size cap, .int .i64 a, .int .i64 m, .int .i64 b, .func (.func 205) #[] #[]] w fun e w' => e = .returned (.tuple #[]) ∧ ∃ dn, Mrg (ltOf cfR) a b dk dn ∧ SWK encR 3 w0 blk off dn w') :=
    Lib.hid fun a m b dk w h1 h2 h3 h4 h5 h6 h7 => symMerge_o 3 stL encR cfR swoR 205 #[] eg blk off cap d w0 (cmpLaysR blk off d.size w0) R (by omega) (b - a) a m b dk w (Nat.le_refl _) h1.symm h2 h3 h4 (by omega) h6 h7
  have S0 : Aside (SWK encR 3 w0 blk off d w0) := SWK.start hH
  have HH : Hid _ := R
  clear R hH eg
  obtain ⟨n, hn⟩ : ∃ n, n = d.size := ⟨_, rfl⟩
  have HN := Lib.hid hn
  rw [← hn] at HINS HSYM hsz ⊢
  clear hn
  go_enter Tryz.func246, Tryz.ntmps246
  go_wp2
  go_loopg [7, 8] (n + 20) (fun kx s7 s8 wr => ∃ (a : Nat) (dk : Array Nat), s7 = .int .i64 a ∧ s8 = .int .i64 (a + 20 : Nat) ∧ a ≤ n ∧ n + 20 - a ≤ kx ∧ Aside (SWK encR 3 w0 blk off dk wr) ∧ Hid (20 ∣ a ∧ PermIn 0 n d dk ∧ Blks (ltOf cfR) 20 a dk))
  case atStart => exact ⟨0, d, rfl, rfl, Nat.zero_le _, by omega, S0, Lib.hid ⟨⟨0, rfl⟩, permIn_refl _ _ _, fun x _ h => by omega⟩⟩
  case round =>
    clear S0
    obtain ⟨a, dk, rfl, rfl, han, hkx, S1, HW⟩ := hrel
    obtain ⟨b, hb⟩ : ∃ b, b = a + 20 := ⟨_, rfl⟩
    rw [← hb]
    have hds : dk.size = n := by rw [HW.out.2.1.1, HN.out]
    by_cases hlt : b ≤ n
    · have hltz : (b : Int) ≤ (n : Int) := by omega
      have HCI := Lib.hid (HINS.out a b dk wr (by have := HN.out; omega) S1.out (by omega) (by omega))
      have HB := Lib.hid hb
      have hb20 : (b : Int) + 20 < 4611686018427387904 := by omega
      have hba : a < b := by omega
      have hbk : n + 20 - b < n + 20 - a := by omega
      clear hb S1 hds
      go_wp2_with (go_at_call 265; refine HCI.out.mono ?_; rintro e w2 ⟨rfl, dn, hm, hs⟩)
      have hrel2 : Hid (20 ∣ b ∧ PermIn 0 n d dn ∧ Blks (ltOf cfR) 20 b dn) := by
        obtain ⟨h1, h2, h3⟩ := HW.out
        have hm' := hm
        rw [HB.out] at hm' ⊢
        exact Lib.hid ⟨Nat.dvd_add h1 (Nat.dvd_refl 20), permIn_trans _ _ _ _ _ h2 (permIn_mono _ _ _ _ _ _ (Nat.zero_le _) (by have := HB.out; omega) (by rw [h2.1, HN.out]; omega) hm'.1), h3.step h1 hm'⟩
      have S2 : Aside (SWK encR 3 w0 blk off dn w2) := hs
      clear hm hs HCI HW HB
      go_wp2
      go_roundg (n + 20 - b)
      case measure => omega
      case rel => exact ⟨b, dn, rfl, by go_num, hlt, Nat.le_refl _, S2, hrel2⟩
    · have hltz : ¬ (b : Int) ≤ (n : Int) := by omega
      have HCI := Lib.hid (HINS.out a n dk wr (by have := HN.out; omega) S1.out han (Nat.le_refl _))
      have HB := Lib.hid hb
      have hnb : n < a + 20 := by omega
      clear hb S1 hds
      go_wp2_with (go_at_call 265; refine HCI.out.mono ?_; rintro e w2 ⟨rfl, dn, hm, hs⟩)
      have hrel2 : Hid (PermIn 0 n d dn ∧ BlkF (ltOf cfR) 20 0 n dn) := by
        obtain ⟨h1, h2, h3⟩ := HW.out
        exact Lib.hid ⟨permIn_trans _ _ _ _ _ h2 (permIn_mono _ _ _ _ _ _ (Nat.zero_le _) (Nat.le_refl _) (by rw [h2.1, HN.out]; exact Nat.le_refl _) hm.1), h3.last h1 han hnb hm⟩
      have S2 : Aside (SWK encR 3 w0 blk off dn w2) := hs
      clear hm hs HCI HW HB
      go_wp2
      clear HINS
      go_loopg [6] n (fun kx s6 wr => ∃ (bs : Nat) (dk : Array Nat), s6 = .int .i64 bs ∧ 0 < bs ∧ bs ≤ 2000000000 ∧ n - bs ≤ kx ∧ Aside (SWK encR 3 w0 blk off dk wr) ∧ Hid (PermIn 0 n d dk ∧ BlkF (ltOf cfR) bs 0 n dk))
      case atStart => exact ⟨20, dn, rfl, by omega, by omega, by omega, S2, hrel2⟩
      case round =>
        clear S2 hrel2 hltz hnb hkx han
        obtain ⟨bs, dk2, rfl, hbs0, hbs9, hkx2, S3, HW⟩ := hrel
        by_cases hlt2 : bs < n
        · have hltz2 : (bs : Int) < (n : Int) := by omega
          obtain ⟨t, ht⟩ : ∃ t, t = 2 * bs := ⟨_, rfl⟩
          have q1 : 2 * (bs : Int) = (t : Int) := by omega
          have q2 : (bs : Int) * 2 = (t : Int) := by omega
          have ht9 : (t : Int) ≤ 2000000000 := by omega
          have HT := Lib.hid ht
          have hbst : bs < t := by omega
          clear ht
          go_wp2
          go_loopg [7, 8] (n + t) (fun kx s7 s8 wr => ∃ (a c : Nat) (dk : Array Nat), s7 = .int .i64 a ∧ s8 = .int .i64 c ∧ Hid (c = a + t) ∧ a ≤ n ∧ n + t - a ≤ kx ∧ Aside (SWK encR 3 w0 blk off dk wr) ∧ Hid (t ∣ a ∧ PermIn 0 n d dk ∧ Blks (ltOf cfR) t a dk ∧ BlkF (ltOf cfR) bs a n dk))
          case atStart => exact ⟨0, t, dk2, rfl, rfl, Lib.hid (by omega), Nat.zero_le _, by omega, S3, Lib.hid ⟨⟨0, rfl⟩, HW.out.1, fun x _ h => by omega, HW.out.2⟩⟩
          case round =>
            clear S3 HW
            obtain ⟨a2, c, dk3, rfl, rfl, HCA, han2, hkx3, S4, HW⟩ := hrel
            have hca := HCA.out
            obtain ⟨m, hm⟩ : ∃ m, m = a2 + bs := ⟨_, rfl⟩
            have q3 : (a2 : Int) + (bs : Int) = (m : Int) := by omega
            have hm9 : (m : Int) ≤ 4000000000 := by omega
            have hdsz : dk3.size = d.size := HW.out.2.1.1
            have hdsa : d.size = n := HN.out.symm
            have HDV : Hid (bs ∣ a2 ∧ bs ∣ m) := Lib.hid (by
              have h1 : bs ∣ a2 := Nat.dvd_trans ⟨2, by have := HT.out; omega⟩ HW.out.1
              exact ⟨h1, by rw [hm]; exact Nat.dvd_add h1 (Nat.dvd_refl bs)⟩)
            have HL : Hid (SortedIn (ltOf cfR) a2 (min m n) dk3) := Lib.hid (by rw [hm]; exact HW.out.2.2.2 a2 HDV.out.1 (Nat.le_refl _))
            have HR : Hid (SortedIn (ltOf cfR) m (min c n) dk3) := Lib.hid (by
              have h := HW.out.2.2.2 m HDV.out.2 (by omega)
              rw [show m + bs = c by have := HT.out; omega] at h; exact h)
            by_cases hlt3 : c ≤ n
            · have hltz3 : (c : Int) ≤ (n : Int) := by omega
              have hl2 : SortedIn (ltOf cfR) a2 m dk3 := by have h := HL.out; rw [Nat.min_eq_left (by omega)] at h; exact h
              have hr2 : SortedIn (ltOf cfR) m c dk3 := by have h := HR.out; rw [Nat.min_eq_left (by omega)] at h; exact h
              have HCS := Lib.hid (HSYM.out a2 m c dk3 wr (by omega) S4.out (by omega) (by have := HT.out; omega) hlt3 hl2 hr2)
              obtain ⟨c', hc'⟩ : ∃ c', c' = c + t := ⟨_, rfl⟩
              have q4 : (c : Int) + (t : Int) = (c' : Int) := by omega
              have hc9 : (c' : Int) ≤ 8000000000 := by omega
              have HCC : Hid (c' = c + t) := Lib.hid hc'
              have hac : a2 < c := by omega
              clear hm hl2 hr2 hc' hca S4 hdsz hdsa
              go_wp2_with (go_at_call 266; refine HCS.out.mono ?_; rintro e w3 ⟨rfl, d4, hmg, hs4⟩)
              have hrel4 : Hid (t ∣ c ∧ PermIn 0 n d d4 ∧ Blks (ltOf cfR) t c d4 ∧ BlkF (ltOf cfR) bs c n d4) := by
                obtain ⟨h1, h2, h3, h4⟩ := HW.out
                have hc := HCA.out
                refine Lib.hid ⟨by rw [hc]; exact Nat.dvd_add h1 (Nat.dvd_refl t), permIn_trans _ _ _ _ _ h2 (permIn_mono _ _ _ _ _ _ (Nat.zero_le _) hlt3 (by rw [h2.1, HN.out]; exact Nat.le_refl _) hmg.1), ?_, h4.step (by omega) hmg.1⟩
                rw [hc] at hmg ⊢
                exact h3.step h1 hmg
              have S5 : Aside (SWK encR 3 w0 blk off d4 w3) := hs4
              have hgo : n + t - c < n + t - a2 := by omega
              clear hmg hs4 HCS HW HCA HL HR HDV q3
              go_wp2
              go_roundg (n + t - c)
              case measure => omega
              case rel => exact ⟨c, c', d4, rfl, rfl, HCC, hlt3, Nat.le_refl _, S5, hrel4⟩
            · have hltz3 : ¬ (c : Int) ≤ (n : Int) := by omega
              by_cases hlt4 : m < n
              · have hltz4 : (m : Int) < (n : Int) := by omega
                have hl2 : SortedIn (ltOf cfR) a2 m dk3 := by have h := HL.out; rw [Nat.min_eq_left (by omega)] at h; exact h
                have hr2 : SortedIn (ltOf cfR) m n dk3 := by have h := HR.out; rw [Nat.min_eq_right (by omega)] at h; exact h
                have HCS := Lib.hid (HSYM.out a2 m n dk3 wr (by omega) S4.out (by omega) hlt4 (by omega) hl2 hr2)
                have hcn : n < a2 + t := by omega
                clear hm hl2 hr2 hca S4 hdsz hdsa
                go_wp2_with (go_at_call 266; refine HCS.out.mono ?_; rintro e w3 ⟨rfl, d4, hmg, hs4⟩)
                have hrel4 : Hid (PermIn 0 n d d4 ∧ BlkF (ltOf cfR) t 0 n d4) := by
                  obtain ⟨h1, h2, h3, h4⟩ := HW.out
                  exact Lib.hid ⟨permIn_trans _ _ _ _ _ h2 (permIn_mono _ _ _ _ _ _ (Nat.zero_le _) (Nat.le_refl _) (by rw [h2.1, HN.out]; exact Nat.le_refl _) hmg.1), h3.last h1 han2 hcn hmg⟩
                have S5 : Aside (SWK encR 3 w0 blk off d4 w3) := hs4
                have hgo : n - t < n - bs := by omega
                clear hmg hs4 HCS HW HCA HL HR HDV q3
                go_wp2
                go_roundg (n - t)
                case measure => omega
                case rel => exact ⟨t, d4, rfl, by omega, by omega, Nat.le_refl _, S5, hrel4⟩
              · have hltz4 : ¬ (m : Int) < (n : Int) := by omega
                have hcn : n < a2 + t := by omega
                have hrel4 : Hid (PermIn 0 n d dk3 ∧ BlkF (ltOf cfR) t 0 n dk3) := by
                  obtain ⟨h1, h2, h3, h4⟩ := HW.out
                  have hl2 : SortedIn (ltOf cfR) a2 n dk3 := by have h := HL.out; rw [Nat.min_eq_right (by omega)] at h; exact h
                  exact Lib.hid ⟨h2, h3.last h1 han2 hcn ⟨permIn_refl _ _ _, hl2⟩⟩
                have hgo : n - t < n - bs := by omega
                clear hm hca hdsz hdsa HW HCA HL HR HDV
                go_wp2
                go_roundg (n - t)
                case measure => omega
                case rel => exact ⟨t, dk3, rfl, by omega, by omega, Nat.le_refl _, S4, hrel4⟩
        · have hltz2 : ¬ (bs : Int) < (n : Int) := by omega
          have HF : Hid (Mrg (ltOf cfR) 0 n d dk2) := Lib.hid ⟨HW.out.1, by have h := HW.out.2 0 ⟨0, rfl⟩ (Nat.le_refl _); rw [Nat.min_eq_right (by omega)] at h; exact h⟩
          go_wp2
          go_end0
          exact ⟨rfl, dk2, HF.out, S3.out⟩
end Go.Proofs.YthiemjodcklejaaGreatDoor
