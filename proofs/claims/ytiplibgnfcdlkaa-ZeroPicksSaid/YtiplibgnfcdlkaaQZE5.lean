import Derived.Test.YtiplibgnfcdlkaaQ25
import Derived.Test.YtiplibgnfcdlkaaQ31
import Derived.Test.YtiplibgnfcdlkaaQ19
/-
  Walks: the reference's Mask, CheckList, Bits, before.
-/
namespace Go.Proofs.Ytiplibgnfcdlkaa
open Go.RowKit

theorem rmask_any (n : Int) (W : World) : Calls Try.prog 25 #[.int .i64 n] W fun e w' => e = .returned (.bool (zok n)) ∧ W = w' := by
  unfold zok
  by_cases h1 : 0 ≤ n
  · by_cases h2 : n ≤ 16777215
    · rw [decide_eq_true (show 0 ≤ n ∧ n < 16777216 by omega)]
      go_enter Try.func25, Try.ntmps25
      go_wp2_with fail
      go_ret
      exact ⟨rfl, rfl⟩
    · rw [decide_eq_false (show ¬ (0 ≤ n ∧ n < 16777216) by omega)]
      go_enter Try.func25, Try.ntmps25
      go_wp2_with fail
      go_ret
      exact ⟨rfl, rfl⟩
  · rw [decide_eq_false (fun h => h1 h.1)]
    go_enter Try.func25, Try.ntmps25
    go_wp2_with fail
    go_ret
    exact ⟨rfl, rfl⟩
set_option maxHeartbeats 2000000 in
theorem rchecklist_any (v : Value) (xs : List Int) (W : World) (h : IntsAt W v xs) : Calls Try.prog 16 #[v] W fun e w' => e = .returned (.int .i64 (zlc xs : Nat)) ∧ W = w' := by
  obtain ⟨a, cp, rfl, ⟨hc, hcn⟩, hl2, hx⟩ := h
  obtain ⟨n, hn⟩ : ∃ n, n = xs.length := ⟨_, rfl⟩
  obtain ⟨q, hq⟩ : ∃ q, q = zlc xs := ⟨_, rfl⟩
  have HN := Lib.hid hn
  have HX := Lib.hid hx
  have HQ := Lib.hid hq
  rw [← hn] at hc hl2 ⊢
  rw [← hq]
  by_cases hbig : 1024 < n
  · have HE : Hid (q = 4) := Lib.hid (by rw [hq]; unfold zlc; rw [if_pos (by omega)])
    have hbi : (1024 : Int) < (n : Int) := by omega
    clear hx hn hq
    go_enter Try.func16, Try.ntmps16
    go_wp2_with fail
    go_ret
    exact ⟨by rw [HE.out]; rfl, rfl⟩
  have hbi : ¬ (1024 : Int) < (n : Int) := by omega
  have hn4 : n ≤ 1024 := by omega
  clear hx hn hq hbig
  go_enter Try.func16, Try.ntmps16
  go_wp2_with fail
  go_loopg [3] n (fun kx s3 wr => ∃ k : Nat, s3 = .int .i64 k ∧ k ≤ n ∧ n - k ≤ kx ∧ Hid ((xs.take k).all zok = true) ∧ Hid (wr = W))
  case atStart => exact ⟨0, by first | rfl | go_num, Nat.zero_le _, by omega, Lib.hid (by simp), Lib.hid rfl⟩
  case round =>
    obtain ⟨k, rfl, hk, hkx, HT, HW⟩ := hrel
    obtain rfl := HW.out
    clear HW
    by_cases hlt : k < n
    · have hlti : (k : Int) < (n : Int) := by omega
      have hk0 : (0 : Int) ≤ (k : Int) := by omega
      have hkL : k < xs.length := by rw [← HN.out]; exact hlt
      obtain ⟨b, o, rfl, p0⟩ := HX.out k hkL
      obtain ⟨x, hx⟩ : ∃ x, x = xs[k] := ⟨_, rfl⟩
      rw [← hx] at p0
      obtain ⟨bo, hbo⟩ : ∃ b, b = zok x := ⟨_, rfl⟩
      have HMS : Hid (Calls Try.prog 25 #[.int .i64 x] wr fun e w' => e = .returned (.bool bo) ∧ wr = w') := Lib.hid (by rw [hbo]; exact rmask_any x wr)
      cases bo with
      | false =>
        have HE : Hid (q = 3) := Lib.hid (by rw [HQ.out]; exact zlc_bad (by rw [← HN.out]; omega) hkL (by rw [← hx]; exact hbo.symm))
        clear hx hbo hkL
        go_wp2_with ((refine HMS.out.mono ?_); rintro e w4 ⟨rfl, rfl⟩)
        go_ret
        exact ⟨by rw [HE.out]; rfl, rfl⟩
      | true =>
        have HT2 := Lib.hid (take_ok hkL HT.out (by rw [← hx]; exact hbo.symm))
        clear hx hbo hkL
        go_wp2_with ((refine HMS.out.mono ?_); rintro e w4 ⟨rfl, rfl⟩)
        go_roundg (n - (k + 1))
        case measure => omega
        case rel => exact ⟨k + 1, by go_num, by omega, Nat.le_refl _, HT2, Lib.hid rfl⟩
    · have hlti : ¬ (k : Int) < (n : Int) := by omega
      have HE : Hid (q = 0) := Lib.hid (by
        have := HT.out
        rw [show k = xs.length by rw [← HN.out]; omega, List.take_length] at this
        rw [HQ.out]; unfold zlc; rw [if_neg (by have := HN.out; omega), if_pos this])
      go_wp2_with fail
      go_ret
      exact ⟨by rw [HE.out]; rfl, rfl⟩
theorem pc_le (n : Nat) : pc n ≤ n := by
  induction n using Nat.strongRecOn with
  | ind n ih =>
    by_cases h : n = 0
    · subst h; exact Nat.le_of_eq pc_zero
    · rw [pc_step]
      have := ih (n / 2) (by omega)
      omega
set_option maxHeartbeats 2000000 in
theorem rbits_any {n : Nat} (h : n < 16777216) (W : World) : Calls Try.prog 72 #[.int .i64 n] W fun e w' => e = .returned (.int .i64 (pc n : Nat)) ∧ W = w' := by
  obtain ⟨r, hr⟩ : ∃ r, r = pc n := ⟨_, rfl⟩
  have hrb : r ≤ 16777216 := by rw [hr]; exact Nat.le_trans (pc_le n) (by omega)
  rw [← hr]
  have HR := Lib.hid hr
  clear hr
  go_enter Try.func72, Try.ntmps72
  go_wp2_with fail
  go_loopg [0, 3] n (fun kx s0 s3 wr => ∃ m q : Nat, s0 = .int .i64 m ∧ s3 = .int .i64 q ∧ m ≤ kx ∧ m < 16777216 ∧ q ≤ r ∧ Hid (q + pc m = r) ∧ Hid (wr = W))
  case atStart => exact ⟨n, 0, rfl, by first | rfl | go_num, Nat.le_refl _, h, Nat.zero_le _, Lib.hid (by rw [HR.out]; omega), Lib.hid rfl⟩
  case round =>
    obtain ⟨m, q, rfl, rfl, hmx, hm, hqr, HI, HW⟩ := hrel
    obtain rfl := HW.out
    clear HW
    by_cases h0 : 0 < m
    · have h0i : (0 : Int) < (m : Int) := by omega
      have e1 : bits .and .i64 (m : Int) 1 = ((m % 2 : Nat) : Int) := by
        rw [show (1 : Int) = ((1 : Nat) : Int) from rfl, and_i64 _ _ (by omega) (by decide), Nat.and_one_is_mod]
      have e2 : (m : Int) / 2 = ((m / 2 : Nat) : Int) := by omega
      have hs := pc_step m
      have HI2 : Hid (q + m % 2 + pc (m / 2) = r) := Lib.hid (by have := HI.out; omega)
      obtain ⟨b, hb⟩ : ∃ b, b = m % 2 := ⟨_, rfl⟩
      obtain ⟨d, hd⟩ : ∃ d, d = m / 2 := ⟨_, rfl⟩
      have hdm : d < m := by omega
      rw [← hb] at e1 HI2
      rw [← hd] at e2 HI2
      have hbb : b ≤ 1 := by omega
      have hqb : q + b ≤ r := by have := HI2.out; omega
      clear hs hb hd
      go_wp2_with fail
      go_roundg d
      case measure => omega
      case rel => exact ⟨d, q + b, by go_num, by go_num, Nat.le_refl _, by omega, hqb, HI2, Lib.hid rfl⟩
    · have h0i : ¬ (0 : Int) < (m : Int) := by omega
      have HE : Hid (q = r) := Lib.hid (by
        have := HI.out
        rw [show m = 0 by omega, pc_zero] at this
        omega)
      go_wp2_with fail
      go_ret
      exact ⟨by rw [HE.out]; rfl, rfl⟩
theorem rbefore_any {a b : Nat} (ha : a < 16777216) (hb : b < 16777216) (W : World) : Calls Try.prog 67 #[.int .i64 a, .int .i64 b] W fun e w' => e = .returned (.bool (decide (zlt a b))) ∧ W = w' := by
  obtain ⟨x, hx⟩ : ∃ x, x = pc a := ⟨_, rfl⟩
  obtain ⟨y, hy⟩ : ∃ x, x = pc b := ⟨_, rfl⟩
  have HA : Hid (∀ W, Calls Try.prog 72 #[.int .i64 a] W fun e w' => e = .returned (.int .i64 (x : Nat)) ∧ W = w') := Lib.hid (hx ▸ fun W => rbits_any ha W)
  have HB : Hid (∀ W, Calls Try.prog 72 #[.int .i64 b] W fun e w' => e = .returned (.int .i64 (y : Nat)) ∧ W = w') := Lib.hid (hy ▸ fun W => rbits_any hb W)
  obtain ⟨q, hq⟩ : ∃ q, q = decide (zlt a b) := ⟨_, rfl⟩
  have HQ : Hid (q = decide (x < y ∨ x = y ∧ a < b)) := Lib.hid (by rw [hq, hx, hy]; rfl)
  rw [← hq]
  clear hq hx hy ha hb
  by_cases h1 : x < y
  · have h1i : (x : Int) < (y : Int) := by omega
    have HE : Hid (q = true) := Lib.hid (by rw [HQ.out]; exact decide_eq_true (.inl h1))
    rw [HE.out]
    go_enter Try.func67, Try.ntmps67
    go_wp2_with (first
      | ((with_reducible refine (HA.out _).mono ?_); rintro e w' ⟨rfl, rfl⟩)
      | ((with_reducible refine (HB.out _).mono ?_); rintro e w' ⟨rfl, rfl⟩))
    go_ret
    exact ⟨rfl, rfl⟩
  · have h1i : ¬ (x : Int) < (y : Int) := by omega
    by_cases h2 : x = y
    · have h2i : ((x : Int) == (y : Int)) = true := by rw [h2]; exact beq_self_eq_true _
      have h2n : (x : Int) = (y : Int) := by rw [h2]
      have HE : Hid (q = decide (a < b)) := Lib.hid (by rw [HQ.out]; exact decide_eq_decide.2 (by omega))
      rw [HE.out]
      clear h2
      go_enter Try.func67, Try.ntmps67
      go_wp2_with (first
        | ((with_reducible refine (HA.out _).mono ?_); rintro e w' ⟨rfl, rfl⟩)
        | ((with_reducible refine (HB.out _).mono ?_); rintro e w' ⟨rfl, rfl⟩))
      go_ret
      exact ⟨rfl, rfl⟩
    · have h2i : ((x : Int) == (y : Int)) = false := beq_eq_false_iff_ne.2 (by omega)
      have HE : Hid (q = false) := Lib.hid (by rw [HQ.out]; exact decide_eq_false (fun h => h.elim h1 (fun h => h2 h.1)))
      rw [HE.out]
      clear h2
      go_enter Try.func67, Try.ntmps67
      go_wp2_with (first
        | ((with_reducible refine (HA.out _).mono ?_); rintro e w' ⟨rfl, rfl⟩)
        | ((with_reducible refine (HB.out _).mono ?_); rintro e w' ⟨rfl, rfl⟩))
      go_ret
      exact ⟨rfl, rfl⟩
end Go.Proofs.Ytiplibgnfcdlkaa
