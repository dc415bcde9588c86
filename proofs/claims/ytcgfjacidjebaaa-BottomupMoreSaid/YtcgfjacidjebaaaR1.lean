/-
  Walks: faultlineref05.Valid, Cut, Count, Compare.
-/
import Derived.Test.YtcgfjacidjebaaaP5
namespace Go.Proofs.Ytcgfjacidjebaaa
open Go.RowKit

theorem and_pred (n : Nat) : 0 < n → n &&& (n - 1) < n ∧ pc n = pc (n &&& (n - 1)) + 1 := by
  induction n using Nat.strongRecOn with
  | ind n ih =>
    intro h0
    have bits : ∀ a b : Nat, a = b ↔ a % 2 = b % 2 ∧ a / 2 = b / 2 := fun a b => by omega
    by_cases h : n % 2 = 1
    · have e : n &&& (n - 1) = n - 1 := by
        rw [bits]
        have e1 : (n &&& (n - 1)) % 2 = 0 := by
          rw [show (2 : Nat) = 2 ^ 1 from rfl, Nat.and_mod_two_pow, show (n - 1) % 2 ^ 1 = 0 by omega]; simp
        have e2 : (n &&& (n - 1)) / 2 = n / 2 := by
          rw [show (2 : Nat) = 2 ^ 1 from rfl, Nat.and_div_two_pow, show (n - 1) / 2 ^ 1 = n / 2 ^ 1 by omega, Nat.and_self]
        omega
      rw [e]
      refine ⟨by omega, ?_⟩
      rw [pc_one n, pc_one (n - 1), show (n - 1) / 2 = n / 2 by omega]
      omega
    · have h2 := ih (n / 2) (by omega) (by omega)
      have e1 : (n &&& (n - 1)) % 2 = 0 := by
        rw [show (2 : Nat) = 2 ^ 1 from rfl, Nat.and_mod_two_pow, show n % 2 ^ 1 = 0 by omega]; simp
      have e2 : (n &&& (n - 1)) / 2 = n / 2 &&& (n / 2 - 1) := by
        rw [show (2 : Nat) = 2 ^ 1 from rfl, Nat.and_div_two_pow, show (n - 1) / 2 ^ 1 = n / 2 ^ 1 - 1 by omega]
      refine ⟨by omega, ?_⟩
      rw [pc_one n, pc_one (n &&& (n - 1)), e1, e2]
      omega
theorem rcut_any {n : Nat} (h : Mk n) (w : World) : Calls Try.prog 130 #[.int .i64 n] w fun e w' => e = .returned (.int .i64 n) ∧ w = w' := by
  have hc := cut_mk h
  go_enter Try.func130, Try.ntmps130
  go_wp2
  go_ret
  exact ⟨rfl, rfl⟩
theorem rvalid_any (s : Int) (w : World) : Calls Try.prog 143 #[.int .i64 s] w fun e w' => e = .returned (.bool (decide (0 ≤ s ∧ s ≤ 16777215))) ∧ w = w' := by
  by_cases h : 0 ≤ s
  · by_cases h2 : s < 16777216
    all_goals
      go_enter Try.func143, Try.ntmps143
      go_wp2
      go_ret
      exact ⟨by congr 2; simp; omega, rfl⟩
  · go_enter Try.func143, Try.ntmps143
    go_wp2
    go_ret
    exact ⟨by congr 2; simp; omega, rfl⟩
theorem rcount_any {n : Nat} (h : Mk n) (w : World) : Calls Try.prog 131 #[.int .i64 n] w fun e w' => e = .returned (.int .i64 (pc n)) ∧ w = w' := by
  obtain ⟨r, hr⟩ : ∃ r, r = pc n := ⟨_, rfl⟩
  rw [← hr]
  have HR := Lib.hid hr
  have h' := h
  clear hr
  go_enter Try.func131, Try.ntmps131
  go_wp2_with (go_at_call 130; refine (rcut_any h' _).mono ?_; rintro e w' ⟨rfl, rfl⟩)
  go_loop [0, 3] (fun s k => ∃ m q : Nat, s = .int .i64 m ∧ k = .int .i64 q ∧ m < 16777216 ∧ q ≤ 16777216 - m ∧ Hid (pc m + q = r)) (fun s _ => (intOf s).toNat)
  case atStart => exact ⟨n, 0, rfl, rfl, h, by omega, Lib.hid (by rw [HR.out]; rfl)⟩
  case round =>
    obtain ⟨m, q, rfl, rfl, hm, hq, HI⟩ := hrel
    by_cases h0 : 0 < m
    · have hp := and_pred m h0
      have e1 : bits .and .i64 (m : Int) ((m : Int) - 1) = ((m &&& (m - 1) : Nat) : Int) := by
        rw [show (m : Int) - 1 = ((m - 1 : Nat) : Int) by omega]
        exact and_i64 _ _ (by omega) (by omega)
      have hne : ((m : Int) == 0) = false := by simp; omega
      have hne2 : ((m : Int) != 0) = true := by simp; omega
      have HP := Lib.hid hp
      clear hp
      go_wp2
      go_round
      case rel => exact ⟨m &&& (m - 1), q + 1, rfl, by go_num, by have := HP.out; omega, by have := HP.out; omega, Lib.hid (by have := HP.out; have := HI.out; omega)⟩
      case measure => have := HP.out; simp [intOf]; omega
    · obtain rfl : m = 0 := by omega
      go_wp2
      go_ret
      have hqr : q = r := by have := HI.out; rw [pc_zero] at this; omega
      exact ⟨by rw [hqr]; rfl, rfl⟩
def cmpR (a b : Nat) : Int := if a = b then 0 else if ltK a b then -1 else 1
set_option maxHeartbeats 1000000 in
theorem rcompare_any {a b : Nat} (ha : Mk a) (hb : Mk b) (w : World) : Calls Try.prog 99 #[.int .i64 a, .int .i64 b] w fun e w' => e = .returned (.int .i64 (cmpR a b)) ∧ w = w' := by
  obtain ⟨r, hr⟩ : ∃ r, r = cmpR a b := ⟨_, rfl⟩
  rw [← hr]
  obtain ⟨x, hx⟩ : ∃ x, x = pc a := ⟨_, rfl⟩
  obtain ⟨y, hy⟩ : ∃ x, x = pc b := ⟨_, rfl⟩
  have HR := Lib.hid hr
  have HA : Hid (∀ W, Calls Try.prog 131 #[.int .i64 a] W fun e w' => e = .returned (.int .i64 x) ∧ W = w') := Lib.hid (hx ▸ fun W => rcount_any ha W)
  have HB : Hid (∀ W, Calls Try.prog 131 #[.int .i64 b] W fun e w' => e = .returned (.int .i64 y) ∧ W = w') := Lib.hid (hy ▸ fun W => rcount_any hb W)
  have CA : Hid (∀ W, Calls Try.prog 130 #[.int .i64 a] W fun e w' => e = .returned (.int .i64 a) ∧ W = w') := Lib.hid fun W => rcut_any ha W
  have CB : Hid (∀ W, Calls Try.prog 130 #[.int .i64 b] W fun e w' => e = .returned (.int .i64 b) ∧ W = w') := Lib.hid fun W => rcut_any hb W
  have HX := Lib.hid hx
  have HY := Lib.hid hy
  clear hr hx hy ha hb
  by_cases e : a = b
  · have h0 : r = 0 := by rw [HR.out, cmpR, if_pos e]
    subst h0
    have ee : ((a : Int) == (b : Int)) = true := by simp; omega
    clear HX HY
    clear e
    go_enter Try.func99, Try.ntmps99
    go_wp2_with (first
      | (go_at_call_of 130 (Value.int .i64 (a : Int)); refine (CA.out _).mono ?_; rintro e w' ⟨rfl, rfl⟩)
      | (go_at_call_of 130 (Value.int .i64 (b : Int)); refine (CB.out _).mono ?_; rintro e w' ⟨rfl, rfl⟩))
    go_ret
    exact ⟨rfl, rfl⟩
  · have ee : ((a : Int) == (b : Int)) = false := by simp; omega
    have HE := Lib.hid e
    clear e
    by_cases h1 : x < y
    · have h0 : r = -1 := by rw [HR.out, cmpR, if_neg HE.out, if_pos (.inl (by rw [← HX.out, ← HY.out]; exact h1))]
      subst h0
      have h1' : (x : Int) < (y : Int) := by omega
      go_enter Try.func99, Try.ntmps99
      go_wp2_with (first
        | (go_at_call_of 130 (Value.int .i64 (a : Int)); refine (CA.out _).mono ?_; rintro e w' ⟨rfl, rfl⟩)
        | (go_at_call_of 130 (Value.int .i64 (b : Int)); refine (CB.out _).mono ?_; rintro e w' ⟨rfl, rfl⟩)
        | (go_at_call_of 131 (Value.int .i64 (a : Int)); refine (HA.out _).mono ?_; rintro e w' ⟨rfl, rfl⟩)
        | (go_at_call_of 131 (Value.int .i64 (b : Int)); refine (HB.out _).mono ?_; rintro e w' ⟨rfl, rfl⟩))
      go_ret
      exact ⟨rfl, rfl⟩
    · have h1' : ¬ (x : Int) < (y : Int) := by omega
      by_cases h2 : x = y
      · have h2' : ((x : Int) == (y : Int)) = true := by simp; omega
        by_cases h3 : a < b
        · have h0 : r = -1 := by rw [HR.out, cmpR, if_neg HE.out, if_pos (.inr ⟨by rw [← HX.out, ← HY.out]; exact h2, h3⟩)]
          subst h0
          have h3' : (a : Int) < (b : Int) := by omega
          clear HX HY h1
          clear h2
          go_enter Try.func99, Try.ntmps99
          go_wp2_with (first
            | (go_at_call_of 130 (Value.int .i64 (a : Int)); refine (CA.out _).mono ?_; rintro e w' ⟨rfl, rfl⟩)
            | (go_at_call_of 130 (Value.int .i64 (b : Int)); refine (CB.out _).mono ?_; rintro e w' ⟨rfl, rfl⟩)
            | (go_at_call_of 131 (Value.int .i64 (a : Int)); refine (HA.out _).mono ?_; rintro e w' ⟨rfl, rfl⟩)
            | (go_at_call_of 131 (Value.int .i64 (b : Int)); refine (HB.out _).mono ?_; rintro e w' ⟨rfl, rfl⟩))
          go_ret
          exact ⟨rfl, rfl⟩
        · have h0 : r = 1 := by
            rw [HR.out, cmpR, if_neg HE.out, if_neg]
            rintro (h | h)
            · rw [← HX.out, ← HY.out] at h; exact h1 h
            · exact h3 h.2
          subst h0
          have h3' : ¬ (a : Int) < (b : Int) := by omega
          clear HX HY h1
          clear h2
          go_enter Try.func99, Try.ntmps99
          go_wp2_with (first
            | (go_at_call_of 130 (Value.int .i64 (a : Int)); refine (CA.out _).mono ?_; rintro e w' ⟨rfl, rfl⟩)
            | (go_at_call_of 130 (Value.int .i64 (b : Int)); refine (CB.out _).mono ?_; rintro e w' ⟨rfl, rfl⟩)
            | (go_at_call_of 131 (Value.int .i64 (a : Int)); refine (HA.out _).mono ?_; rintro e w' ⟨rfl, rfl⟩)
            | (go_at_call_of 131 (Value.int .i64 (b : Int)); refine (HB.out _).mono ?_; rintro e w' ⟨rfl, rfl⟩))
          go_ret
          exact ⟨rfl, rfl⟩
      · have h2' : ((x : Int) == (y : Int)) = false := by simp; omega
        have h0 : r = 1 := by
          rw [HR.out, cmpR, if_neg HE.out, if_neg]
          rintro (h | h)
          · rw [← HX.out, ← HY.out] at h; exact h1 h
          · rw [← HX.out, ← HY.out] at h; exact h2 h.1
        subst h0
        clear HX HY h1
        clear h2
        go_enter Try.func99, Try.ntmps99
        go_wp2_with (first
          | (go_at_call_of 130 (Value.int .i64 (a : Int)); refine (CA.out _).mono ?_; rintro e w' ⟨rfl, rfl⟩)
          | (go_at_call_of 130 (Value.int .i64 (b : Int)); refine (CB.out _).mono ?_; rintro e w' ⟨rfl, rfl⟩)
          | (go_at_call_of 131 (Value.int .i64 (a : Int)); refine (HA.out _).mono ?_; rintro e w' ⟨rfl, rfl⟩)
          | (go_at_call_of 131 (Value.int .i64 (b : Int)); refine (HB.out _).mono ?_; rintro e w' ⟨rfl, rfl⟩))
        go_ret
        exact ⟨rfl, rfl⟩
end Go.Proofs.Ytcgfjacidjebaaa
