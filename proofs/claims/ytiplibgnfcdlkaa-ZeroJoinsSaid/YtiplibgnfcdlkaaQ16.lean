import Derived.Test.YtiplibgnfcdlkaaQ15
import Derived.Test.YtiplibgnfcdlkaaQ04
/-
  Walk: Set of decision.Sets: the family of one set.
-/
namespace Go.Proofs.Ytiplibgnfcdlkaa
open Go.RowKit

theorem zbit_val (s k : Nat) (hs : s < 16777216) : (bits .and .i64 ((s : Int) / 2 ^ k) 1 == 1) = s.testBit k := by
  have e : (s : Int) / 2 ^ k = ((s / 2 ^ k : Nat) : Int) := by simp
  have hle : s / 2 ^ k ≤ s := Nat.div_le_self _ _
  rw [e, show (1 : Int) = ((1 : Nat) : Int) from rfl, and_i64 _ _ (by omega) (by omega), Nat.testBit_eq_decide_div_mod_eq, Nat.and_one_is_mod]
  rw [Bool.eq_iff_iff]
  simp
  omega
/-- The elements of a set from j on. -/
def ztop (s j : Nat) : Nat := s >>> j <<< j
theorem ztop_bit (s j i : Nat) : (ztop s j).testBit i = (decide (j ≤ i) && s.testBit i) := by
  unfold ztop
  rw [Nat.testBit_shiftLeft, Nat.testBit_shiftRight]
  by_cases h : j ≤ i
  · rw [show j + (i - j) = i by omega]
  · rw [decide_eq_false h, Bool.false_and, Bool.false_and]
theorem ztop_zero (s : Nat) : ztop s 0 = s := Nat.eq_of_testBit_eq fun i => by rw [ztop_bit, decide_eq_true (Nat.zero_le _), Bool.true_and]
theorem ztop_end {s : Nat} (hs : s < 16777216) : ztop s 24 = 0 := Nat.eq_of_testBit_eq fun i => by
  rw [ztop_bit, Nat.zero_testBit]
  by_cases h : 24 ≤ i
  · rw [Nat.testBit_lt_two_pow (Nat.lt_of_lt_of_le (show s < 2 ^ 24 from hs) (Nat.pow_le_pow_right (by decide) h)), Bool.and_false]
  · rw [decide_eq_false h, Bool.false_and]
theorem ztop_off {s j : Nat} (h : s.testBit j = false) : ztop s j = ztop s (j + 1) := Nat.eq_of_testBit_eq fun i => by
  rw [ztop_bit, ztop_bit]
  by_cases e : i = j
  · rw [e, h, Bool.and_false, Bool.and_false]
  · rw [show decide (j ≤ i) = decide (j + 1 ≤ i) from decide_eq_decide.2 (by omega)]
theorem ztop_on {s j : Nat} (h : s.testBit j = true) : ZHalf j (fun t => t == ztop s j) (fun _ => false) (fun t => t == ztop s (j + 1)) := by
  have e : ztop s j ^^^ 2 ^ j = ztop s (j + 1) := Nat.eq_of_testBit_eq fun i => by
    rw [xor_bit, ztop_bit, ztop_bit]
    by_cases e : j = i
    · rw [if_pos e, ← e, h, decide_eq_true (Nat.le_refl _), decide_eq_false (by omega)]; rfl
    · rw [if_neg e, show decide (j ≤ i) = decide (j + 1 ≤ i) from decide_eq_decide.2 (by omega)]
  have b1 : (ztop s j).testBit j = true := by rw [ztop_bit, h, decide_eq_true (Nat.le_refl _)]; rfl
  have b2 : (ztop s (j + 1)).testBit j = false := by rw [ztop_bit, decide_eq_false (by omega)]; rfl
  refine ⟨fun t => ?_, fun _ _ => rfl, fun t ht => ?_⟩
  · by_cases hb : t.testBit j = true
    · rw [if_pos hb, Bool.eq_iff_iff, beq_iff_eq, beq_iff_eq]
      constructor
      · intro h1; rw [h1, e]
      · intro h1; rw [← flip_flip t j, h1, ← e, flip_flip]
    · rw [if_neg hb, beq_eq_false_iff_ne]
      intro h1
      rw [h1, b1] at hb
      exact hb rfl
  · rw [beq_eq_false_iff_ne]
    intro h1
    rw [h1, b2] at ht
    cases ht
theorem zset_start {N : List ZNode} (hg : ZGood N) {s : Nat} (hs : s < 16777216) : ZPut N 24 (fun t => t == ztop s 24) N 1 :=
  ZPut.of hg (by omega) (Nat.le_refl _) fun t => by rw [zm_one, ztop_end hs]
theorem zset_off {N N' : List ZNode} {s j r : Nat} (h : ZPut N (j + 1) (fun t => t == ztop s (j + 1)) N' r) (hb : s.testBit j = false) : ZPut N j (fun t => t == ztop s j) N' r := by
  rw [ztop_off hb]; exact h.weak (by omega)
theorem zset_on {N N' : List ZNode} {s j r : Nat} (h : ZPut N (j + 1) (fun t => t == ztop s (j + 1)) N' r) (hj : j < 24) (hb : s.testBit j = true) : ZPut N j (fun t => t == ztop s j) (zput N' ⟨j, 0, r⟩).1 (zput N' ⟨j, 0, r⟩).2 :=
  zhalf_both hj (ztop_on hb) ⟨h.ext, h.good, Nat.zero_le _, by rw [zev_zero]; omega, fun t => zm_zero _ _⟩ h
set_option maxRecDepth 100000 in
set_option maxHeartbeats 4000000 in
theorem zset_any (t : ZT) (N : List ZNode) (s : Nat) (W : World) (h : TblAt W t N) (hs : s < 16777216) (hl : N.length + 24 ≤ 4398046511104) :
    Calls Try.prog 45 #[t.val, .int .i64 s] W (GenPost t W fun N' r => ZPut N 0 (fun x => x == s) N' r ∧ N'.length ≤ N.length + 24) := by
  have hg := h.good
  have HT := Lib.hid h
  have HS0 := Lib.hid (zset_start hg hs)
  obtain ⟨R, hR⟩ : ∃ R : List ZNode → Nat → Prop, R = fun N' r => ZPut N 0 (fun x => x == s) N' r ∧ N'.length ≤ N.length + 24 := ⟨_, rfl⟩
  have HR : Hid (∀ N' r, ZPut N 0 (fun t => t == ztop s 0) N' r → N'.length ≤ N.length + 24 → R N' r) := Lib.hid fun N' r h1 h2 => by rw [hR]; rw [ztop_zero] at h1; exact ⟨h1, h2⟩
  rw [← hR]
  have HMK : Hid (∀ W' N1 r j, TblAt W' t N1 → ZPut N (j + 1) (fun t => t == ztop s (j + 1)) N1 r → j < 24 → s.testBit j = true → N1.length + (j + 1) ≤ N.length + 24 →
      Calls Try.prog 78 #[t.val, .int .i64 (j : Nat), .int .i64 0, .int .i64 (r : Nat)] W' (GenPost t W' fun N' r' => ZPut N j (fun t => t == ztop s j) N' r' ∧ N'.length + j ≤ N.length + 24)) := Lib.hid fun W' N1 r j hT hp hj hb hl1 => by
    have hp2 := zset_on hp hj hb
    refine (zmake_any t N1 ⟨j, 0, r⟩ W' hT hp2.good (by omega)).mono ?_
    rintro e w' ⟨rfl, h3, h4⟩
    exact ⟨_, _, rfl, ⟨hp2, by have := zput_len N1 ⟨j, 0, r⟩; omega⟩, h3, h4⟩
  have HBV : Hid (∀ k, (bits .and .i64 ((s : Int) / 2 ^ k) 1 == 1) = s.testBit k) := Lib.hid fun k => zbit_val s k hs
  have HGL := Lib.hid hl
  clear hR hg h hl
  unfold ZT.val at *
  go_enter Try.func45, Try.ntmps45
  go_wp2_with fail
  go_loopg [5, 6] 24 (fun kx s5 s6 wr => ∃ (j r : Nat) (x : Int) (N1 : List ZNode), s5 = .int .i64 r ∧ s6 = .int .i64 x ∧ x = (j : Int) - 1 ∧ j ≤ 24 ∧ j ≤ kx ∧ Hid (TblAt wr t N1) ∧ Hid (ZPut N j (fun t => t == ztop s j) N1 r) ∧ Hid (N1.length + j ≤ N.length + 24) ∧ Hid (TFrm t W wr))
  case atStart => exact ⟨24, 1, 23, N, rfl, rfl, rfl, Nat.le_refl _, Nat.le_refl _, HT, HS0, Lib.hid (Nat.le_refl _), Lib.hid (TFrm.refl _ _)⟩
  case round =>
    obtain ⟨j, r, x, N1, rfl, rfl, hx, hj, hjx, HT1, HP1, HL1, HF1⟩ := hrel
    cases j with
    | zero =>
      have hx0 : ¬ (0 : Int) ≤ x := by omega
      have HE := Lib.hid (HR.out N1 r HP1.out (by have := HL1.out; omega))
      clear hx
      go_wp2_with fail
      go_ret
      refine ⟨r, N1, ?_, HE.out, HT1.out, HF1.out⟩
      rfl
    | succ j =>
      obtain rfl : x = (j : Int) := by omega
      have hx0 : (0 : Int) ≤ (j : Int) := by omega
      have hj24 : j < 24 := by omega
      have hj64 : (j : Int) < 64 := by omega
      have hbv := HBV.out j
      clear hx
      cases hb : s.testBit j with
      | false =>
        rw [hb] at hbv
        have HP2 := Lib.hid (zset_off HP1.out hb)
        clear hb
        go_wp2_with fail
        go_roundg j
        case measure => omega
        case rel => exact ⟨j, r, (j : Int) - 1, N1, rfl, by first | rfl | go_num, rfl, by omega, Nat.le_refl _, HT1, HP2, Lib.hid (by have := HL1.out; omega), HF1⟩
      | true =>
        rw [hb] at hbv
        have HM2 := Lib.hid (HMK.out wr N1 r j HT1.out HP1.out hj24 hb HL1.out)
        clear hb
        go_wp2_with fail
        refine HM2.out.mono ?_
        rintro e w2 ⟨r2, N2, rfl, ⟨hp, hl⟩, ht, hf⟩
        have HP2 := Lib.hid hp
        have HL2 := Lib.hid hl
        have HT2 := Lib.hid ht
        have HF2 := Lib.hid (HF1.out.trans hf)
        clear hp hl ht hf
        go_wp2_with fail
        go_roundg j
        case measure => omega
        case rel => exact ⟨j, r2, (j : Int) - 1, N2, rfl, by first | rfl | go_num, rfl, by omega, Nat.le_refl _, HT2, HP2, HL2, HF2⟩
end Go.Proofs.Ytiplibgnfcdlkaa
