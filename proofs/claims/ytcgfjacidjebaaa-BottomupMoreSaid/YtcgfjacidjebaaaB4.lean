/-
  Walks: math/bits.OnesCount, cmp.Compare[int], sets.Count, Compare.
-/
import Derived.Test.YtcgfjacidjebaaaB3
import Derived.Test.YtcgfjacidjebaaaP1
namespace Go.Proofs.Ytcgfjacidjebaaa
open Go.RowKit

theorem isNaN_any (x : Int) (w : World) : Calls Try.prog 126 #[.int .i64 x] w fun e w' => e = .returned (.bool false) ∧ w = w' := by
  go_enter Try.func126, Try.ntmps126
  go_wp2
  go_ret
  exact ⟨by simp, rfl⟩
def cmpI (x y : Int) : Int := if x < y then -1 else if y < x then 1 else 0
theorem cmp_any (x y : Int) (w : World) : Calls Try.prog 93 #[.int .i64 x, .int .i64 y] w fun e w' => e = .returned (.int .i64 (cmpI x y)) ∧ w = w' := by
  unfold cmpI
  by_cases h1 : x < y
  · rw [if_pos h1]
    go_enter Try.func93, Try.ntmps93
    go_wp2_with (go_at_call 126; refine (isNaN_any _ _).mono ?_; rintro e w' ⟨rfl, rfl⟩)
    go_ret
    exact ⟨rfl, rfl⟩
  · rw [if_neg h1]
    by_cases h2 : y < x
    · rw [if_pos h2]
      go_enter Try.func93, Try.ntmps93
      go_wp2_with (go_at_call 126; refine (isNaN_any _ _).mono ?_; rintro e w' ⟨rfl, rfl⟩)
      go_ret
      exact ⟨rfl, rfl⟩
    · rw [if_neg h2]
      go_enter Try.func93, Try.ntmps93
      go_wp2_with (go_at_call 126; refine (isNaN_any _ _).mono ?_; rintro e w' ⟨rfl, rfl⟩)
      go_ret
      exact ⟨rfl, rfl⟩
theorem ones64_any (x : Int) (w : World) : Calls Try.prog 135 #[.int .u64 x] w fun e w' => e = .returned (.int .i64 (pcS x)) ∧ w = w' := by
  go_enter Try.func135, Try.ntmps135
  go_wp2
  go_ret
  exact ⟨rfl, rfl⟩
theorem ones_any (x : Int) (w : World) : Calls Try.prog 127 #[.int .u64 x] w fun e w' => e = .returned (.int .i64 (pcS x)) ∧ w = w' := by
  go_enter Try.func127, Try.ntmps127
  go_wp2_with (go_at_call 135; refine (ones64_any _ _).mono ?_; rintro e w' ⟨rfl, rfl⟩)
  go_ret
  exact ⟨rfl, rfl⟩
/-- A set of events: a mask. -/
def Mk (n : Nat) : Prop := n < 16777216
theorem cut_mk {n : Nat} (h : Mk n) : bits .and .i64 (n : Int) 16777215 = n := by
  unfold Mk at h
  rw [show (16777215 : Int) = ((16777215 : Nat) : Int) from rfl, and_i64 _ _ (by omega) (by decide), show (16777215 : Nat) = 2 ^ 24 - 1 from rfl, Nat.and_two_pow_sub_one_eq_mod]
  omega
theorem cutk_any {n : Nat} (h : Mk n) (w : World) : Calls Try.prog 76 #[.int .i64 n] w fun e w' => e = .returned (.int .i64 n) ∧ w = w' := by
  have := cut_any n w
  rwa [cut_mk h] at this
theorem wrap_mk {n : Nat} (h : Mk n) : IntKind.u64.wrap (n : Int) = n := wrap_u64 n (by unfold Mk at h; omega)
theorem count_any {n : Nat} (h : Mk n) (w : World) : Calls Try.prog 94 #[.int .i64 n] w fun e w' => e = .returned (.int .i64 (pc n)) ∧ w = w' := by
  have hw := wrap_mk h
  have hp : pcS (n : Int) = (pc n : Nat) := pcS_pc n h
  have H := Lib.hid h
  clear h
  go_enter Try.func94, Try.ntmps94
  go_wp2_with (first
    | (go_at_call 76; refine (cutk_any H.out _).mono ?_; rintro e w' ⟨rfl, rfl⟩)
    | (go_at_call 127; refine (ones_any _ _).mono ?_; rintro e w' ⟨rfl, rfl⟩))
  go_ret
  exact ⟨rfl, rfl⟩
/-- The order of sets: by size, then as numbers. -/
def cmpK (a b : Nat) : Int := if pc a < pc b then -1 else if pc b < pc a then 1 else if a < b then -1 else if b < a then 1 else 0
theorem compare_any {a b : Nat} (ha : Mk a) (hb : Mk b) (w : World) : Calls Try.prog 65 #[.int .i64 a, .int .i64 b] w fun e w' => e = .returned (.int .i64 (cmpK a b)) ∧ w = w' := by
  have HA := Lib.hid ha
  have HB := Lib.hid hb
  clear ha hb
  obtain ⟨x, hx⟩ : ∃ x, x = cmpI (pc a) (pc b) := ⟨_, rfl⟩
  have HX := Lib.hid hx
  clear hx
  have hr : cmpK a b = if x == 0 then cmpI a b else x := by
    have := HX.out
    unfold cmpK
    unfold cmpI at this ⊢
    split at this
    · rw [if_pos (by omega)]; simp [this]
    · split at this
      · rw [if_neg (by omega), if_pos (by omega)]; simp [this]
      · rw [if_neg (by omega), if_neg (by omega)]; simp [this]
  rw [hr]
  clear hr
  cases hx0 : x == 0
  all_goals
    have hx1 : (x != 0) = !(x == 0) := rfl
    rw [hx0] at hx1
    simp only [Bool.not_true, Bool.not_false] at hx1
    go_enter Try.func65, Try.ntmps65
    go_wp2_with (first
      | (go_at_call 94; refine (count_any (by first | exact HA.out | exact HB.out) _).mono ?_; rintro e w' ⟨rfl, rfl⟩)
      | (go_at_call 93; refine (cmp_any _ _ _).mono ?_; rintro e w' ⟨rfl, rfl⟩; rw [← HX.out])
      | (go_at_call 93; refine (cmp_any _ _ _).mono ?_; rintro e w' ⟨rfl, rfl⟩)
      | (go_at_call 76; refine (cutk_any (by first | exact HA.out | exact HB.out) _).mono ?_; rintro e w' ⟨rfl, rfl⟩))
    go_ret
    exact ⟨rfl, rfl⟩
end Go.Proofs.Ytcgfjacidjebaaa
