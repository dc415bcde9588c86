import Derived.Test.YtngbjdaaogbjmaaGreatY2m
import Derived.Test.YtngbjdaaogbjmaaGreatK4
import Derived.Deep.RegionHeld3
/-
  Walks: the rows of truncate: flip, node, has at masks; the cutter's add.
-/
namespace Go.Proofs.YtngbjdaaogbjmaaGreat
open Go.RowKit

theorem tflip_any {c : Nat} (hc : RowLt 152 c) (i : Nat) (hi : i < 128) (w : World) : Calls Tryz.prog 133 #[rowV c, .int .i64 i, .bool true] w fun e w' => e = .returned (rowV (c ||| 2 ^ (24 + i))) ∧ Kept w w' := by
  unfold rowV
  by_cases h6 : i < 64
  · obtain ⟨e1, e2, e3⟩ := lo_with (c := c) (j := i) h6
    rw [e1, e2, e3]
    exact tflip_lo_on (evW c) (loW c) (hiW c) i (loW_lt c) h6 w _ rfl
  · obtain ⟨j, rfl⟩ : ∃ j, i = 64 + j := ⟨i - 64, by omega⟩
    obtain ⟨e1, e2, e3⟩ := hi_with (c := c) (j := j)
    rw [e1, e2, e3]
    exact tflip_hi_on (evW c) (loW c) (hiW c) j (hiW_lt hc) (by omega) w _ rfl
theorem tunflip_any {c : Nat} (hc : RowLt 152 c) (i : Nat) (hi : i < 128) (w : World) : Calls Tryz.prog 133 #[rowV c, .int .i64 i, .bool false] w fun e w' => e = .returned (rowV (sdiff c (2 ^ (24 + i)))) ∧ Kept w w' := by
  unfold rowV
  by_cases h6 : i < 64
  · obtain ⟨e1, e2, e3⟩ := lo_without (c := c) (j := i) h6
    rw [e1, e2, e3]
    exact tflip_lo_off (evW c) (loW c) (hiW c) i (loW_lt c) h6 w _ rfl
  · obtain ⟨j, rfl⟩ : ∃ j, i = 64 + j := ⟨i - 64, by omega⟩
    obtain ⟨e1, e2, e3⟩ := hi_without (c := c) (j := j)
    rw [e1, e2, e3]
    exact tflip_hi_off (evW c) (loW c) (hiW c) j (hiW_lt hc) (by omega) w _ rfl
theorem or_self_iff (c m : Nat) : (c ||| 2 ^ m = c) ↔ c.testBit m = true := by
  constructor
  · intro h
    have := bit_or_pow c m m
    rw [h] at this
    simpa using this
  · intro h
    refine Nat.eq_of_testBit_eq fun i => ?_
    rw [bit_or_pow]
    by_cases e : m = i
    · subst e; simp [h]
    · simp [e]
theorem row_eq (a b : Nat) : (evW a = evW b ∧ loW a = loW b ∧ hiW a = hiW b) ↔ a = b := by
  constructor
  · rintro ⟨h1, h2, h3⟩
    rw [row_join a, row_join b, h1, h2, h3]
  · intro h; subst h; exact ⟨rfl, rfl, rfl⟩
set_option maxRecDepth 100000 in
theorem tnode_any {c : Nat} (hc : RowLt 152 c) (w : World) : Calls Tryz.prog 78 #[rowV c] w fun e w' => (∃ r : Int, e = .returned (.int .i64 r) ∧ TopIs c r ∧ -1 ≤ r ∧ r ≤ 1000) ∧ Kept w w' := by
  have hlo := loW_lt c
  have hhi := hiW_lt hc
  have HT1 : Hid (∀ m, (hiW c).testBit m = true → (∀ j, (hiW c).testBit j = true → j ≤ m) → TopIs c ((64 + m : Nat) : Int)) := Lib.hid fun m h1 h2 => topIs_hi h1 h2
  have HT2 : Hid (∀ m, hiW c = 0 → (loW c).testBit m = true → (∀ j, (loW c).testBit j = true → j ≤ m) → TopIs c (m : Int)) := Lib.hid fun m h0 h1 h2 => topIs_lo h0 h1 h2
  have HT3 : Hid (hiW c = 0 → loW c = 0 → TopIs c (-1)) := Lib.hid fun h0 h1 => topIs_none h0 h1
  have HLEN : Hid (∀ (x : Nat) (W : World), x < 18446744073709551616 → Calls Tryz.prog 140 #[.int .u64 (x : Nat)] W fun e w' => e = .returned (.int .i64 (Lib.bitLen x)) ∧ W = w') := Lib.hid fun x W h => (Tryz.bits_Len64 (x : Int) W (by omega) (by omega)).mono fun _ _ h => ⟨by rw [h.1]; simp, h.2.symm⟩
  unfold rowV
  generalize evW c = ev at *
  generalize hiW c = hi at hhi HT1 HT2 HT3 ⊢
  generalize loW c = lo at hlo HT1 HT2 HT3 ⊢
  by_cases hhi0 : hi = 0
  · have b1 : ((hi : Int) != 0) = false := by simp [hhi0]
    by_cases hlo0 : lo = 0
    · have HF := Lib.hid (HT3.out hhi0 hlo0)
      have HC := Lib.hid (fun W => HLEN.out lo W hlo)
      have h0 : Lib.bitLen lo = 0 := by rw [hlo0]; rfl
      rw [h0] at HC
      clear hhi0 hlo0 h0
      go_enter Tryz.func78, Tryz.ntmps78
      go_wp2_with (go_at_call 140; refine (HC.out _).mono ?_; rintro e w2 ⟨rfl, rfl⟩)
      go_ret
      exact ⟨⟨_, rfl, HF.out, by omega, by omega⟩, (Kept.refl _).alloc _⟩
    · obtain ⟨m, hm1, hm2, hm3, hm4⟩ := bitLen_top hlo hlo0
      have HC := Lib.hid (fun W => HLEN.out lo W hlo)
      rw [hm1] at HC
      have HF := Lib.hid (HT2.out m hhi0 hm3 hm4)
      obtain ⟨m1, hm⟩ : ∃ x, x = m + 1 := ⟨_, rfl⟩
      rw [← hm] at HC
      have q1 : (m1 : Int) - 1 = (m : Int) := by omega
      have hm9 : m1 ≤ 64 := by omega
      clear hhi0 hlo0 hm1 hm3 hm4 hm
      go_enter Tryz.func78, Tryz.ntmps78
      go_wp2_with (go_at_call 140; refine (HC.out _).mono ?_; rintro e w2 ⟨rfl, rfl⟩)
      go_ret
      exact ⟨⟨_, rfl, HF.out, by omega, by omega⟩, (Kept.refl _).alloc _⟩
  · have b1 : ((hi : Int) != 0) = true := by simp; omega
    obtain ⟨m, hm1, hm2, hm3, hm4⟩ := bitLen_top hhi hhi0
    have HC := Lib.hid (fun W => HLEN.out hi W hhi)
    rw [hm1] at HC
    obtain ⟨z, hz⟩ : ∃ z, z = 64 + m := ⟨_, rfl⟩
    have HF : Hid (TopIs c (z : Int)) := Lib.hid (by rw [hz]; exact HT1.out m hm3 hm4)
    obtain ⟨m1, hm⟩ : ∃ x, x = m + 1 := ⟨_, rfl⟩
    rw [← hm] at HC
    have q1 : (63 : Int) + (m1 : Int) = (z : Int) := by omega
    have hz9 : z ≤ 1000 := by omega
    have hm9 : m1 ≤ 64 := by omega
    clear hhi0 hm1 hm3 hm4 hm hz
    go_enter Tryz.func78, Tryz.ntmps78
    go_wp2_with (go_at_call 140; refine (HC.out _).mono ?_; rintro e w2 ⟨rfl, rfl⟩)
    go_ret
    exact ⟨⟨_, rfl, HF.out, by omega, by omega⟩, (Kept.refl _).alloc _⟩
set_option maxRecDepth 100000 in
set_option maxHeartbeats 4000000 in
theorem thas_any {c : Nat} (hc : RowLt 152 c) (i : Nat) (hi : i < 128) (w : World) : Calls Tryz.prog 79 #[rowV c, .int .i64 i] w fun e w' => e = .returned (.bool (c.testBit (24 + i))) ∧ Kept w w' := by
  have HFL := Lib.hid (fun W => tflip_any hc i hi W)
  have hb : c.testBit (24 + i) = (decide (evW (c ||| 2 ^ (24 + i)) = evW c) && (decide (loW (c ||| 2 ^ (24 + i)) = loW c) && decide (hiW (c ||| 2 ^ (24 + i)) = hiW c))) := by
    rw [Bool.eq_iff_iff, ← or_self_iff, ← row_eq]
    simp
  rw [hb]
  clear hb hc
  unfold rowV at *
  generalize c ||| 2 ^ (24 + i) = d at *
  generalize evW c = x0 at *
  generalize loW c = x1 at *
  generalize hiW c = x2 at *
  generalize evW d = y0 at *
  generalize loW d = y1 at *
  generalize hiW d = y2 at *
  by_cases e0 : y0 = x0
  · subst e0
    by_cases e1 : y1 = x1
    · subst e1
      by_cases e2 : y2 = x2
      · subst e2
        rw [decide_eq_true rfl, decide_eq_true rfl, decide_eq_true rfl]
        go_enter Tryz.func79, Tryz.ntmps79
        go_wp2
        have c0 := ((Kept.refl (w.alloc (.cells #[.int .i64 y0, .int .u64 y1, .int .u64 y2] 109))).drew).cell (p := ⟨w.heap.size, 0, none⟩) (v := .int .i64 y0) (by simp)
        have c1 := ((Kept.refl (w.alloc (.cells #[.int .i64 y0, .int .u64 y1, .int .u64 y2] 109))).drew).cell (p := ⟨w.heap.size, 1, none⟩) (v := .int .u64 y1) (by simp)
        have c2 := ((Kept.refl (w.alloc (.cells #[.int .i64 y0, .int .u64 y1, .int .u64 y2] 109))).drew).cell (p := ⟨w.heap.size, 2, none⟩) (v := .int .u64 y2) (by simp)
        go_region_with (go_at_call 133; (with_reducible refine (HFL.out _).mono ?_); rintro e w3 ⟨rfl, hk3⟩; have t0 := hk3.cell c0; have t1 := hk3.cell c1; have t2 := hk3.cell c2)
        all_goals go_wp2
        all_goals go_ret
        all_goals exact ⟨rfl, ((((Kept.refl _).alloc _).drew)).trans hk3⟩
      · have b2 : ((y2 : Int) == (x2 : Int)) = false := by simp; omega
        rw [decide_eq_true rfl, decide_eq_true rfl, decide_eq_false e2]
        clear e2
        go_enter Tryz.func79, Tryz.ntmps79
        go_wp2
        have c0 := ((Kept.refl (w.alloc (.cells #[.int .i64 y0, .int .u64 y1, .int .u64 x2] 109))).drew).cell (p := ⟨w.heap.size, 0, none⟩) (v := .int .i64 y0) (by simp)
        have c1 := ((Kept.refl (w.alloc (.cells #[.int .i64 y0, .int .u64 y1, .int .u64 x2] 109))).drew).cell (p := ⟨w.heap.size, 1, none⟩) (v := .int .u64 y1) (by simp)
        have c2 := ((Kept.refl (w.alloc (.cells #[.int .i64 y0, .int .u64 y1, .int .u64 x2] 109))).drew).cell (p := ⟨w.heap.size, 2, none⟩) (v := .int .u64 x2) (by simp)
        go_region_with (go_at_call 133; (with_reducible refine (HFL.out _).mono ?_); rintro e w3 ⟨rfl, hk3⟩; have t0 := hk3.cell c0; have t1 := hk3.cell c1; have t2 := hk3.cell c2)
        all_goals go_wp2
        all_goals go_ret
        all_goals exact ⟨rfl, ((((Kept.refl _).alloc _).drew)).trans hk3⟩
    · have b1 : ((y1 : Int) == (x1 : Int)) = false := by simp; omega
      rw [decide_eq_true rfl, decide_eq_false e1]
      clear e1
      go_enter Tryz.func79, Tryz.ntmps79
      go_wp2
      have c0 := ((Kept.refl (w.alloc (.cells #[.int .i64 y0, .int .u64 x1, .int .u64 x2] 109))).drew).cell (p := ⟨w.heap.size, 0, none⟩) (v := .int .i64 y0) (by simp)
      have c1 := ((Kept.refl (w.alloc (.cells #[.int .i64 y0, .int .u64 x1, .int .u64 x2] 109))).drew).cell (p := ⟨w.heap.size, 1, none⟩) (v := .int .u64 x1) (by simp)
      have c2 := ((Kept.refl (w.alloc (.cells #[.int .i64 y0, .int .u64 x1, .int .u64 x2] 109))).drew).cell (p := ⟨w.heap.size, 2, none⟩) (v := .int .u64 x2) (by simp)
      go_region_with (go_at_call 133; (with_reducible refine (HFL.out _).mono ?_); rintro e w3 ⟨rfl, hk3⟩; have t0 := hk3.cell c0; have t1 := hk3.cell c1; have t2 := hk3.cell c2)
      all_goals go_wp2
      all_goals go_ret
      all_goals exact ⟨rfl, ((((Kept.refl _).alloc _).drew)).trans hk3⟩
  · have b0 : ((y0 : Int) == (x0 : Int)) = false := by simp; omega
    rw [decide_eq_false e0]
    clear e0
    go_enter Tryz.func79, Tryz.ntmps79
    go_wp2
    have c0 := ((Kept.refl (w.alloc (.cells #[.int .i64 x0, .int .u64 x1, .int .u64 x2] 109))).drew).cell (p := ⟨w.heap.size, 0, none⟩) (v := .int .i64 x0) (by simp)
    have c1 := ((Kept.refl (w.alloc (.cells #[.int .i64 x0, .int .u64 x1, .int .u64 x2] 109))).drew).cell (p := ⟨w.heap.size, 1, none⟩) (v := .int .u64 x1) (by simp)
    have c2 := ((Kept.refl (w.alloc (.cells #[.int .i64 x0, .int .u64 x1, .int .u64 x2] 109))).drew).cell (p := ⟨w.heap.size, 2, none⟩) (v := .int .u64 x2) (by simp)
    go_region_with (go_at_call 133; (with_reducible refine (HFL.out _).mono ?_); rintro e w3 ⟨rfl, hk3⟩; have t0 := hk3.cell c0; have t1 := hk3.cell c1; have t2 := hk3.cell c2)
    all_goals go_wp2
    all_goals go_ret
    all_goals exact ⟨rfl, ((((Kept.refl _).alloc _).drew)).trans hk3⟩
end Go.Proofs.YtngbjdaaogbjmaaGreat
