import Derived.Test.YtngbjdaaogbjmaaGreatK1
import Derived.RegionTactic
import Derived.BigRegion
import Derived.ChangeAlike
import Derived.Test.YtngbjdaaogbjmaaGreatK2
import Derived.BigQuiet
import Derived.Deep.QuietTactic
import Derived.Test.YtngbjdaaogbjmaaGreatRows
import Derived.Sort.LotD2
import Derived.Sort.LotA
import Derived.Shelf.SlSortCmp.PdqK
import Derived.Test.YtngbjdaaogbjmaaGreatProg
import Derived.Lib.Hide
import Derived.Deep.DeepCutAuto
import Derived.Test.YtngbjdaaogbjmaaGreatShelf
import Derived.Lib.ItoaNum
import Derived.Deep.MidRow
import Derived.Deep.LoopGhost
/-
  Walks: the rows of topdown: has, with, without.
-/
namespace Go.Proofs.YtngbjdaaogbjmaaGreat
open Go.RowKit

theorem or_u64 (a b : Nat) (ha : a < 18446744073709551616) (hb : b < 18446744073709551616) : bits .or .u64 (a : Int) (b : Int) = ((a ||| b : Nat) : Int) := by
  have h : (BitVec.ofInt 64 (a : Int) ||| BitVec.ofInt 64 (b : Int)).toNat = a ||| b := by rw [BitVec.toNat_or, ofNat_toNat a ha, ofNat_toNat b hb]
  show IntKind.u64.wrap (((BitVec.ofInt 64 (a : Int) ||| BitVec.ofInt 64 (b : Int)).toNat : Nat) : Int) = _
  rw [h]; have := Nat.or_lt_two_pow (n := 64) (x := a) (y := b) (by omega) (by omega); exact wrap_u64 _ (by omega)
theorem andNot_u64 (a b : Nat) (ha : a < 18446744073709551616) (hb : b < 18446744073709551616) : bits .andNot .u64 (a : Int) (b : Int) = ((sdiff a b : Nat) : Int) := by
  have h : (BitVec.ofInt 64 (a : Int) &&& ~~~ BitVec.ofInt 64 (b : Int)).toNat = sdiff a b := by
    have e : BitVec.ofInt 64 (a : Int) &&& ~~~ BitVec.ofInt 64 (b : Int) = BitVec.ofInt 64 (a : Int) ^^^ (BitVec.ofInt 64 (a : Int) &&& BitVec.ofInt 64 (b : Int)) := by
      ext i hi
      simp only [BitVec.getElem_and, BitVec.getElem_not, BitVec.getElem_xor]
      cases (BitVec.ofInt 64 (a : Int))[i] <;> cases (BitVec.ofInt 64 (b : Int))[i] <;> rfl
    rw [e, BitVec.toNat_xor, BitVec.toNat_and, ofNat_toNat a ha, ofNat_toNat b hb]; rfl
  show IntKind.u64.wrap (((BitVec.ofInt 64 (a : Int) &&& ~~~ BitVec.ofInt 64 (b : Int)).toNat : Nat) : Int) = _
  rw [h]
  have h2 : sdiff a b < 2 ^ 64 := Nat.xor_lt_two_pow (by omega) (Nat.lt_of_le_of_lt Nat.and_le_left (by omega))
  exact wrap_u64 _ (by omega)
theorem pow_u64 (i : Nat) (h : i < 64) : IntKind.u64.wrap ((2 : Int) ^ i) = ((2 ^ i : Nat) : Int) := by
  have h1 : 2 ^ i < 18446744073709551616 := Nat.lt_of_lt_of_le (Nat.pow_lt_pow_right (by omega) h : 2 ^ i < 2 ^ 64) (by decide)
  have := wrap_u64 (2 ^ i) h1
  rw [← this]; simp
theorem pow_lt64 {i : Nat} (h : i < 64) : 2 ^ i < 18446744073709551616 := Nat.lt_of_lt_of_le (Nat.pow_lt_pow_right (by omega) h : 2 ^ i < 2 ^ 64) (by decide)
theorem pow_lt24 {i : Nat} (h : i < 24) : 2 ^ i < 16777216 := Nat.lt_of_lt_of_le (Nat.pow_lt_pow_right (by omega) h : 2 ^ i < 2 ^ 24) (by decide)
theorem bit_u64 (l i : Nat) (hl : l < 18446744073709551616) : (bits .and .u64 ((l : Int) / 2 ^ i) 1 == 1) = l.testBit i := by
  have h1 : (l : Int) / 2 ^ i = ((l / 2 ^ i : Nat) : Int) := by simp
  have h2 : l / 2 ^ i < 18446744073709551616 := Nat.lt_of_le_of_lt (Nat.div_le_self _ _) hl
  rw [h1, show (1 : Int) = ((1 : Nat) : Int) from rfl, and_u64 _ _ h2 (by decide), Nat.and_one_is_mod, Nat.testBit_eq_decide_div_mod_eq, Bool.eq_iff_iff]
  simp; omega
theorem has_lo (e l h i : Nat) (hl : l < 18446744073709551616) (hi : i < 64) (w : World) :
    Calls Tryz.prog 93 #[.agg #[.int .i64 e, .int .u64 l, .int .u64 h], .int .i64 i] w fun e' w' => e' = .returned (.bool (l.testBit i)) ∧ Kept w w' := by
  have q0 : (i : Int) / 64 = 0 := by omega
  have q1 : (i : Int) % 64 = i := by omega
  have q2 : Int.tdiv (i : Int) 64 = 0 := by rw [Int.tdiv_eq_ediv_of_nonneg (by omega)]; exact q0
  have q3 : Int.tmod (i : Int) 64 = i := by rw [Int.tmod_eq_emod_of_nonneg (by omega)]; exact q1
  have HB := Lib.hid (bit_u64 l i hl)
  go_enter Tryz.func93, Tryz.ntmps93
  go_wp2
  go_ret
  exact ⟨by rw [← HB.out]; rfl, (Kept.refl _).alloc _⟩
theorem has_hi (e l h j : Nat) (hl : h < 18446744073709551616) (hj : j < 64) (w : World) :
    Calls Tryz.prog 93 #[.agg #[.int .i64 e, .int .u64 l, .int .u64 h], .int .i64 (64 + j : Nat)] w fun e' w' => e' = .returned (.bool (h.testBit j)) ∧ Kept w w' := by
  obtain ⟨i, hi⟩ : ∃ i, i = 64 + j := ⟨_, rfl⟩
  rw [← hi]
  have q0 : (i : Int) / 64 = 1 := by omega
  have q1 : (i : Int) % 64 = j := by omega
  have q2 : Int.tdiv (i : Int) 64 = 1 := by rw [Int.tdiv_eq_ediv_of_nonneg (by omega)]; exact q0
  have q3 : Int.tmod (i : Int) 64 = j := by rw [Int.tmod_eq_emod_of_nonneg (by omega)]; exact q1
  have HB := Lib.hid (bit_u64 h j hl)
  clear hi
  go_enter Tryz.func93, Tryz.ntmps93
  go_wp2
  go_ret
  exact ⟨by rw [← HB.out]; rfl, (Kept.refl _).alloc _⟩
theorem pow_i64 (V : Nat) (h : V ≤ 24) : wrap64 ((2 : Int) ^ V) = ((2 ^ V : Nat) : Int) := by
  have h1 : (2 : Nat) ^ V ≤ 2 ^ 24 := Nat.pow_le_pow_right (by omega) h
  rw [show (2 : Int) ^ V = ((2 ^ V : Nat) : Int) by simp]
  generalize (2 : Nat) ^ V = z at h1 ⊢
  unfold wrap64; omega
theorem with_ev (e l h a : Nat) (V : Nat) (v : Value) (T : Int) (hs : ∃ a n c, v = .slice a n c) (he : e < 16777216) (hV : V ≤ 24) (ha : a < V) (w : World) :
    Calls Tryz.prog 91 #[.agg #[.int .i64 e, .int .u64 l, .int .u64 h], .agg #[.int .i64 V, v, .int .i64 T], .int .i64 a] w fun e' w' => e' = .returned (.agg #[.int .i64 (e ||| 2 ^ a : Nat), .int .u64 l, .int .u64 h]) ∧ Kept w w' := by
  obtain ⟨sa, n, c, rfl⟩ := hs
  have h1 : (a : Int) < (V : Int) := by omega
  have h2 : ¬ (a : Int) < 0 := by omega
  have p1 := pow_i64 a (by omega)
  have hp := pow_lt24 (show a < 24 by omega)
  obtain ⟨z, hz⟩ : ∃ z, z = 2 ^ a := ⟨_, rfl⟩
  rw [← hz] at p1 hp ⊢
  have p2 := or_i64 e z (by omega) (by omega)
  clear hz
  obtain ⟨y, hy⟩ : ∃ y, y = e ||| z := ⟨_, rfl⟩
  rw [← hy] at p2 ⊢
  clear hy
  go_enter Tryz.func91, Tryz.ntmps91
  go_wp2
  go_region
  all_goals go_wp2
  all_goals exact bodyPost_ret (v := .agg #[.int .i64 y, .int .u64 l, .int .u64 h]) (by simp [results, Tryz.results91, go_sem]) rfl ⟨rfl, by first | exact ((((Kept.refl _).alloc _).alloc _).alloc _) | exact ((((Kept.refl _).alloc _).alloc _).alloc _).drew⟩
theorem with_lo (e l h j : Nat) (V : Nat) (v : Value) (T : Int) (hs : ∃ a n c, v = .slice a n c) (hl : l < 18446744073709551616) (hV : V ≤ 24) (hj : j < 64) (w : World) (y : Nat) (hy : y = l ||| 2 ^ j) :
    Calls Tryz.prog 91 #[.agg #[.int .i64 e, .int .u64 l, .int .u64 h], .agg #[.int .i64 V, v, .int .i64 T], .int .i64 (V + (j) : Nat)] w fun e' w' => e' = .returned (.agg #[.int .i64 e, .int .u64 y, .int .u64 h]) ∧ Kept w w' := by
  obtain ⟨sa, n, c, rfl⟩ := hs
  obtain ⟨i, hi⟩ : ∃ i, i = j := ⟨_, rfl⟩
  obtain ⟨a, ha⟩ : ∃ a, a = V + i := ⟨_, rfl⟩
  rw [← hi, ← ha]
  have h1 : ¬ (a : Int) < (V : Int) := by omega
  have h3 : IntKind.i64.wrap ((a : Int) - (V : Int)) = (i : Int) := by rw [IntKind.wrap_i64]; omega
  have h4 : (a : Int) - (V : Int) = (i : Int) := by omega
  have q0 : (i : Int) / 64 = 0 := by omega
  have q1 : (i : Int) % 64 = j := by omega
  have q2 : Int.tdiv (i : Int) 64 = 0 := by rw [Int.tdiv_eq_ediv_of_nonneg (by omega)]; exact q0
  have q3 : Int.tmod (i : Int) 64 = j := by rw [Int.tmod_eq_emod_of_nonneg (by omega)]; exact q1
  have q4 : ¬ (j : Int) < 0 := by omega
  have p1 := pow_u64 j hj
  have hp := pow_lt64 hj
  obtain ⟨z, hz⟩ : ∃ z, z = 2 ^ j := ⟨_, rfl⟩
  rw [← hz] at p1 hp hy
  have p2 := or_u64 l z hl hp
  rw [← hy] at p2
  clear hz hy hi ha
  go_enter Tryz.func91, Tryz.ntmps91
  go_wp2
  go_region
  all_goals go_wp2
  all_goals exact bodyPost_ret (v := .agg #[.int .i64 e, .int .u64 y, .int .u64 h]) (by simp [results, Tryz.results91, go_sem]) rfl ⟨rfl, by first | exact ((((Kept.refl _).alloc _).alloc _).alloc _) | exact ((((Kept.refl _).alloc _).alloc _).alloc _).drew⟩
theorem without_lo (e l h j : Nat) (hl : l < 18446744073709551616) (hj : j < 64) (w : World) (y : Nat) (hy : y = sdiff l (2 ^ j)) :
    Calls Tryz.prog 148 #[.agg #[.int .i64 e, .int .u64 l, .int .u64 h], .int .i64 (j : Nat)] w fun e' w' => e' = .returned (.agg #[.int .i64 e, .int .u64 y, .int .u64 h]) ∧ Kept w w' := by
  obtain ⟨i, hi⟩ : ∃ i, i = j := ⟨_, rfl⟩
  rw [← hi]
  have q0 : (i : Int) / 64 = 0 := by omega
  have q1 : (i : Int) % 64 = j := by omega
  have q2 : Int.tdiv (i : Int) 64 = 0 := by rw [Int.tdiv_eq_ediv_of_nonneg (by omega)]; exact q0
  have q3 : Int.tmod (i : Int) 64 = j := by rw [Int.tmod_eq_emod_of_nonneg (by omega)]; exact q1
  have q4 : ¬ (j : Int) < 0 := by omega
  have p1 := pow_u64 j hj
  have hp := pow_lt64 hj
  obtain ⟨z, hz⟩ : ∃ z, z = 2 ^ j := ⟨_, rfl⟩
  rw [← hz] at p1 hp hy
  have p2 := andNot_u64 l z hl hp
  rw [← hy] at p2
  clear hz hy hi
  go_enter Tryz.func148, Tryz.ntmps148
  go_wp2
  go_region
  all_goals go_wp2
  all_goals exact bodyPost_ret (v := .agg #[.int .i64 e, .int .u64 y, .int .u64 h]) (by simp [results, Tryz.results148, go_sem]) rfl ⟨rfl, by first | exact ((((Kept.refl _).alloc _).alloc _)) | exact ((((Kept.refl _).alloc _).alloc _)).drew⟩
theorem with_hi (e l h j : Nat) (V : Nat) (v : Value) (T : Int) (hs : ∃ a n c, v = .slice a n c) (hl : h < 18446744073709551616) (hV : V ≤ 24) (hj : j < 64) (w : World) (y : Nat) (hy : y = h ||| 2 ^ j) :
    Calls Tryz.prog 91 #[.agg #[.int .i64 e, .int .u64 l, .int .u64 h], .agg #[.int .i64 V, v, .int .i64 T], .int .i64 (V + (64 + j) : Nat)] w fun e' w' => e' = .returned (.agg #[.int .i64 e, .int .u64 l, .int .u64 y]) ∧ Kept w w' := by
  obtain ⟨sa, n, c, rfl⟩ := hs
  obtain ⟨i, hi⟩ : ∃ i, i = 64 + j := ⟨_, rfl⟩
  obtain ⟨a, ha⟩ : ∃ a, a = V + i := ⟨_, rfl⟩
  rw [← hi, ← ha]
  have h1 : ¬ (a : Int) < (V : Int) := by omega
  have h3 : IntKind.i64.wrap ((a : Int) - (V : Int)) = (i : Int) := by rw [IntKind.wrap_i64]; omega
  have h4 : (a : Int) - (V : Int) = (i : Int) := by omega
  have q0 : (i : Int) / 64 = 1 := by omega
  have q1 : (i : Int) % 64 = j := by omega
  have q2 : Int.tdiv (i : Int) 64 = 1 := by rw [Int.tdiv_eq_ediv_of_nonneg (by omega)]; exact q0
  have q3 : Int.tmod (i : Int) 64 = j := by rw [Int.tmod_eq_emod_of_nonneg (by omega)]; exact q1
  have q4 : ¬ (j : Int) < 0 := by omega
  have p1 := pow_u64 j hj
  have hp := pow_lt64 hj
  obtain ⟨z, hz⟩ : ∃ z, z = 2 ^ j := ⟨_, rfl⟩
  rw [← hz] at p1 hp hy
  have p2 := or_u64 h z hl hp
  rw [← hy] at p2
  clear hz hy hi ha
  go_enter Tryz.func91, Tryz.ntmps91
  go_wp2
  go_region
  all_goals go_wp2
  all_goals exact bodyPost_ret (v := .agg #[.int .i64 e, .int .u64 l, .int .u64 y]) (by simp [results, Tryz.results91, go_sem]) rfl ⟨rfl, by first | exact ((((Kept.refl _).alloc _).alloc _).alloc _) | exact ((((Kept.refl _).alloc _).alloc _).alloc _).drew⟩
theorem without_hi (e l h j : Nat) (hl : h < 18446744073709551616) (hj : j < 64) (w : World) (y : Nat) (hy : y = sdiff h (2 ^ j)) :
    Calls Tryz.prog 148 #[.agg #[.int .i64 e, .int .u64 l, .int .u64 h], .int .i64 (64 + j : Nat)] w fun e' w' => e' = .returned (.agg #[.int .i64 e, .int .u64 l, .int .u64 y]) ∧ Kept w w' := by
  obtain ⟨i, hi⟩ : ∃ i, i = 64 + j := ⟨_, rfl⟩
  rw [← hi]
  have q0 : (i : Int) / 64 = 1 := by omega
  have q1 : (i : Int) % 64 = j := by omega
  have q2 : Int.tdiv (i : Int) 64 = 1 := by rw [Int.tdiv_eq_ediv_of_nonneg (by omega)]; exact q0
  have q3 : Int.tmod (i : Int) 64 = j := by rw [Int.tmod_eq_emod_of_nonneg (by omega)]; exact q1
  have q4 : ¬ (j : Int) < 0 := by omega
  have p1 := pow_u64 j hj
  have hp := pow_lt64 hj
  obtain ⟨z, hz⟩ : ∃ z, z = 2 ^ j := ⟨_, rfl⟩
  rw [← hz] at p1 hp hy
  have p2 := andNot_u64 h z hl hp
  rw [← hy] at p2
  clear hz hy hi
  go_enter Tryz.func148, Tryz.ntmps148
  go_wp2
  go_region
  all_goals go_wp2
  all_goals exact bodyPost_ret (v := .agg #[.int .i64 e, .int .u64 l, .int .u64 y]) (by simp [results, Tryz.results148, go_sem]) rfl ⟨rfl, by first | exact ((((Kept.refl _).alloc _).alloc _)) | exact ((((Kept.refl _).alloc _).alloc _)).drew⟩
end Go.Proofs.YtngbjdaaogbjmaaGreat

/-
  Plain numbers: the swar sum is the number of bits of a word of 64 bits.
-/
namespace Go.Proofs.YtngbjdaaogbjmaaGreat
open Go.RowKit

/-- The number with these bytes, the least one first. -/
def byN : List Nat → Nat
  | [] => 0
  | a :: l => a + 256 * byN l
def repN (m : Nat) (l : List Nat) : Nat := byN (l.map fun _ => m)
theorem byN_s1 (l : List Nat) (h : ∀ a ∈ l, a < 256) : (byN l / 2 &&& repN 0x55 l) + (byN l &&& repN 0x55 l) = byN (l.map t1) := by
  induction l with
  | nil => simp [byN, repN]
  | cons a l ih =>
    have ha := h a (List.mem_cons_self ..)
    have ih' := ih fun x hx => h x (List.mem_cons_of_mem _ hx)
    have hk := byte1 a ha
    show ((a + 256 * byN l) / 2 &&& (0x55 + 256 * repN 0x55 l)) + ((a + 256 * byN l) &&& (0x55 + 256 * repN 0x55 l)) = t1 a + 256 * byN (l.map t1)
    rw [show (a + 256 * byN l) / 2 = 256 * (byN l / 2) + (a / 2 + 128 * (byN l % 2)) by omega, show a + 256 * byN l = 256 * byN l + a by omega, show 0x55 + 256 * repN 0x55 l = 256 * repN 0x55 l + 0x55 by omega,
      and_256 _ _ _ _ (by omega) (by omega), and_256 _ _ _ _ ha (by omega), ← ih']
    have e : (a / 2 + 128 * (byN l % 2)) &&& 0x55 = a / 2 &&& 0x55 := by
      have : byN l % 2 = 0 ∨ byN l % 2 = 1 := by omega
      rcases this with h | h <;> rw [h]
      · rfl
      · exact hk.1.symm
    rw [e]
    unfold t1
    omega
theorem byN_s2 (l : List Nat) (h : ∀ a ∈ l, a < 171) : (byN l / 4 &&& repN 0x33 l) + (byN l &&& repN 0x33 l) = byN (l.map t2) := by
  induction l with
  | nil => simp [byN, repN]
  | cons a l ih =>
    have ha := h a (List.mem_cons_self ..)
    have ih' := ih fun x hx => h x (List.mem_cons_of_mem _ hx)
    have hk := byte2 a ha (byN l % 4) (by omega)
    show ((a + 256 * byN l) / 4 &&& (0x33 + 256 * repN 0x33 l)) + ((a + 256 * byN l) &&& (0x33 + 256 * repN 0x33 l)) = t2 a + 256 * byN (l.map t2)
    rw [show (a + 256 * byN l) / 4 = 256 * (byN l / 4) + (a / 4 + 64 * (byN l % 4)) by omega, show a + 256 * byN l = 256 * byN l + a by omega, show 0x33 + 256 * repN 0x33 l = 256 * repN 0x33 l + 0x33 by omega,
      and_256 _ _ _ _ (by omega) (by omega), and_256 _ _ _ _ (by omega) (by omega), ← ih', ← hk.1]
    unfold t2
    omega
theorem byN_mod16 (l : List Nat) : byN l % 16 = (l.headD 0) % 16 := by
  cases l with
  | nil => rfl
  | cons a l => show (a + 256 * byN l) % 16 = a % 16; omega
theorem byN_s3 (l : List Nat) (h : ∀ a ∈ l, a < 103 ∧ a % 16 < 7) : (byN l / 16 + byN l) &&& repN 15 l = byN (l.map t3) := by
  induction l with
  | nil => simp [byN, repN]
  | cons a l ih =>
    have ha := h a (List.mem_cons_self ..)
    have ih' := ih fun x hx => h x (List.mem_cons_of_mem _ hx)
    have hm : byN l % 16 < 7 := by
      rw [byN_mod16]
      cases l with
      | nil => decide
      | cons b l => exact (h b (by simp)).2
    have hk := byte3 a ha.1 (byN l % 16) hm
    show ((a + 256 * byN l) / 16 + (a + 256 * byN l)) &&& (15 + 256 * repN 15 l) = t3 a + 256 * byN (l.map t3)
    rw [show (a + 256 * byN l) / 16 + (a + 256 * byN l) = 256 * (byN l / 16 + byN l) + (a / 16 + 16 * (byN l % 16) + a) by omega, show 15 + 256 * repN 15 l = 256 * repN 15 l + 15 by omega,
      and_256 _ _ _ _ (by omega) (by omega), ih', hk.1]
    omega
theorem byN_lt (l : List Nat) (h : ∀ a ∈ l, a < 256) : byN l < 256 ^ l.length := by
  induction l with
  | nil => simp [byN]
  | cons a l ih =>
    have ha := h a (List.mem_cons_self ..)
    have ih' := ih fun x hx => h x (List.mem_cons_of_mem _ hx)
    show a + 256 * byN l < 256 ^ (l.length + 1)
    rw [Nat.pow_succ]
    omega
theorem pc_byN (l : List Nat) (h : ∀ a ∈ l, a < 256) : pc (byN l) = (l.map pc).sum := by
  induction l with
  | nil => simp [byN, pc_zero]
  | cons a l ih =>
    show pc (a + 256 * byN l) = pc a + (l.map pc).sum
    rw [Nat.add_comm, pc_byte_step a _ (h a (List.mem_cons_self ..)), ih fun x hx => h x (List.mem_cons_of_mem _ hx)]
theorem byN_of (n : Nat) (h : n < 18446744073709551616) : ∃ l : List Nat, l.length = 8 ∧ (∀ a ∈ l, a < 256) ∧ n = byN l := by
  refine ⟨[n % 256, n / 256 % 256, n / 65536 % 256, n / 16777216 % 256, n / 4294967296 % 256, n / 1099511627776 % 256, n / 281474976710656 % 256, n / 72057594037927936], rfl, ?_, ?_⟩
  · intro a ha
    simp only [List.mem_cons, List.not_mem_nil, or_false] at ha
    omega
  · simp only [byN]
    omega
theorem byN_102 (l : List Nat) (h : ∀ a ∈ l, a < 103) (k : Nat) (hl : l.length = k) : byN l ≤ 102 * byN (List.replicate k 1) := by
  subst hl
  induction l with
  | nil => simp [byN]
  | cons a l ih =>
    have ha := h a (List.mem_cons_self ..)
    have ih' := ih fun x hx => h x (List.mem_cons_of_mem _ hx)
    show a + 256 * byN l ≤ 102 * (1 + 256 * byN (List.replicate l.length 1))
    omega
theorem div_low (a m b : Nat) (h : a < m) : (a + m * b) / m = b := by rw [Nat.add_mul_div_left _ _ (by omega), Nat.div_eq_of_lt h, Nat.zero_add]
def addL : List Nat → List Nat → List Nat
  | [], r => r
  | a :: l, [] => a :: l
  | a :: l, b :: r => (a + b) :: addL l r
theorem byN_addL : ∀ l r, byN (addL l r) = byN l + byN r
  | [], r => by simp [addL, byN]
  | a :: l, [] => by simp [addL, byN]
  | a :: l, b :: r => by
    show (a + b) + 256 * byN (addL l r) = (a + 256 * byN l) + (b + 256 * byN r)
    rw [byN_addL l r]; omega
theorem addL_lt (x y : Nat) : ∀ l r, (∀ a ∈ l, a < x + 1) → (∀ a ∈ r, a < y + 1) → ∀ a ∈ addL l r, a < x + y + 1
  | [], r, _, h2 => fun a ha => by have := h2 a ha; omega
  | a :: l, [], h1, _ => fun x hx => by have := h1 x hx; omega
  | a :: l, b :: r, h1, h2 => fun z hz => by
    rcases List.mem_cons.1 hz with e | e
    · have := h1 a (by simp); have := h2 b (by simp); omega
    · exact addL_lt x y l r (fun q hq => h1 q (List.mem_cons_of_mem _ hq)) (fun q hq => h2 q (List.mem_cons_of_mem _ hq)) z e
theorem addL_len : ∀ l r : List Nat, r.length ≤ l.length → (addL l r).length = l.length
  | [], r, h => by simpa [addL] using h
  | a :: l, [], _ => rfl
  | a :: l, b :: r, h => by simp only [addL, List.length_cons]; rw [addL_len l r (by simpa using h)]
theorem byN_split : ∀ (k : Nat) (l : List Nat), byN l = byN (l.take k) + 256 ^ k * byN (l.drop k)
  | 0, l => by simp [byN]
  | k + 1, [] => by simp [byN]
  | k + 1, a :: l => by
    show a + 256 * byN l = (a + 256 * byN (l.take k)) + 256 ^ (k + 1) * byN (l.drop k)
    have := byN_split k l
    rw [this, Nat.pow_succ, Nat.mul_add, Nat.mul_comm (256 ^ k) 256, Nat.mul_assoc]; omega
theorem swar_step (f : Int → Int) (k m : Nat) (M : Int) (hM : M = (m : Int)) (hm : m = 256 ^ k) (hf : ∀ x, f x = IntKind.u64.wrap (x + x / M)) (l : List Nat) (hl : l.length = 8) (x : Nat) (hx : ∀ a ∈ l, a < x + 1) (h9 : x + x < 256) :
    f (byN l : Nat) = (byN (addL l (l.drop k)) : Nat) ∧ (addL l (l.drop k)).length = 8 ∧ ∀ a ∈ addL l (l.drop k), a < x + x + 1 := by
  have hb := addL_lt x x l (l.drop k) hx fun a ha => hx a (List.mem_of_mem_drop ha)
  have hlen : (addL l (l.drop k)).length = 8 := by rw [addL_len _ _ (by simp), hl]
  refine ⟨?_, hlen, hb⟩
  have hlt : byN (addL l (l.drop k)) < 18446744073709551616 := by
    have := byN_lt (addL l (l.drop k)) fun a ha => by have := hb a ha; omega
    rw [hlen] at this; exact this
  have ha : byN (l.take k) < m := by
    have := byN_lt (l.take k) fun a ha => by have := hx a (List.mem_of_mem_take ha); omega
    rw [hm]
    exact Nat.lt_of_lt_of_le this (Nat.pow_le_pow_right (by omega) (by simp; omega))
  have hs := byN_split k l
  rw [← hm] at hs
  have hd : byN l / m = byN (l.drop k) := by rw [hs]; exact div_low _ _ _ ha
  rw [hf, hM, show ((byN l : Nat) : Int) / (m : Int) = ((byN l / m : Nat) : Int) by simp, hd, ← Int.natCast_add, ← byN_addL]
  exact wrap_u64 _ hlt
def foldB (l : List Nat) : List Nat := addL (addL (addL l (l.drop 1)) ((addL l (l.drop 1)).drop 2)) ((addL (addL l (l.drop 1)) ((addL l (l.drop 1)).drop 2)).drop 4)
theorem foldB_head (l : List Nat) (hl : l.length = 8) : ∃ r, foldB l = l.sum :: r := by
  match l, hl with
  | [y0, y1, y2, y3, y4, y5, y6, y7], _ =>
    refine ⟨(foldB [y0, y1, y2, y3, y4, y5, y6, y7]).tail, ?_⟩
    simp only [foldB, addL, List.drop, List.tail, List.sum_cons, List.sum_nil]
    exact List.cons_eq_cons.2 ⟨by omega, rfl⟩
theorem byN_64 : ∀ (r : List Nat), (∀ a ∈ r, a < 65) → byN r ≤ 64 * byN (List.replicate r.length 1) := by
  intro r
  induction r with
  | nil => intro _; simp [byN]
  | cons a r ih =>
    intro h
    have h1 := h a (List.mem_cons_self ..)
    have h2 := ih (fun x hx => h x (List.mem_cons_of_mem _ hx))
    show a + 256 * byN r ≤ 64 * (1 + 256 * byN (List.replicate r.length 1))
    omega
theorem swar_end (p q : Nat) (hp : p < 65) (h : p + 256 * q < 9223372036854775808) : bits .and .i64 (wrap64 ((p + 256 * q : Nat) : Int)) 127 = (p : Int) := by
  rw [show wrap64 ((p + 256 * q : Nat) : Int) = ((p + 256 * q : Nat) : Int) from by unfold wrap64; omega, show (127 : Int) = ((127 : Nat) : Int) from rfl, and_i64 _ _ h (by decide)]
  rw [show (127 : Nat) = 2 ^ 7 - 1 from rfl, Nat.and_two_pow_sub_one_eq_mod]
  omega
theorem swar_fold (l : List Nat) (hl : l.length = 8) (hb : ∀ a ∈ l, a < 8 + 1) : s6 (s5 (s4 ((byN l : Nat) : Int))) = ((byN (foldB l) : Nat) : Int) ∧ (foldB l).length = 8 ∧ ∀ a ∈ foldB l, a < 65 := by
  obtain ⟨e1, l1, b1⟩ := swar_step s4 1 256 256 rfl (by decide) (fun _ => rfl) l hl 8 hb (by omega)
  obtain ⟨e2, l2, b2⟩ := swar_step s5 2 65536 65536 rfl (by decide) (fun _ => rfl) _ l1 16 b1 (by omega)
  obtain ⟨e3, l3, b3⟩ := swar_step s6 4 4294967296 4294967296 rfl (by decide) (fun _ => rfl) _ l2 32 b2 (by omega)
  refine ⟨?_, l3, b3⟩
  rw [e1, e2, e3]
  rfl
theorem swar_sum (l : List Nat) (hl : l.length = 8) (hb : ∀ a ∈ l, a < 8 + 1) : bits .and .i64 (wrap64 (s6 (s5 (s4 ((byN l : Nat) : Int))))) 127 = ((l.sum : Nat) : Int) := by
  obtain ⟨e, hlen, hB⟩ := swar_fold l hl hb
  obtain ⟨r, hr⟩ := foldB_head l hl
  have hlt := byN_64 _ hB
  rw [hlen, show byN (List.replicate 8 1) = 72340172838076673 from rfl] at hlt
  rw [e]
  rw [hr] at hlt hB ⊢
  have hp := hB _ (List.mem_cons_self ..)
  exact swar_end _ (byN r) hp (by have : l.sum + 256 * byN r ≤ 64 * 72340172838076673 := hlt; omega)
set_option maxHeartbeats 1000000 in
theorem pcS_word (n : Nat) (h : n < 18446744073709551616) : pcS (n : Int) = (pc n : Nat) := by
  obtain ⟨l, hl, hb, rfl⟩ := byN_of n h
  rw [pc_byN l hb]
  have r1 : repN 0x55 l = 6148914691236517205 := by
    unfold repN
    rw [List.map_const', hl]; rfl
  have r2 : repN 0x33 (l.map t1) = 3689348814741910323 := by
    unfold repN
    rw [List.map_const', List.length_map, hl]; rfl
  have r3 : repN 15 ((l.map t1).map t2) = 1085102592571150095 := by
    unfold repN
    rw [List.map_const', List.length_map, List.length_map, hl]; rfl
  have b1 : ∀ a ∈ l.map t1, a < 171 := by
    intro a ha
    obtain ⟨x, hx, rfl⟩ := List.mem_map.1 ha
    exact (byte1 x (hb x hx)).2
  have b2 : ∀ a ∈ (l.map t1).map t2, a < 103 ∧ a % 16 < 7 := by
    intro a ha
    obtain ⟨x, hx, rfl⟩ := List.mem_map.1 ha
    exact (byte2 x (b1 x hx) 0 (by omega)).2
  have l1 : byN (l.map t1) < 18446744073709551616 := by
    have := byN_lt (l.map t1) fun a ha => by have := b1 a ha; omega
    rw [List.length_map, hl] at this; exact this
  have l2 : byN ((l.map t1).map t2) < 18446744073709551616 := by
    have := byN_lt ((l.map t1).map t2) fun a ha => by have := (b2 a ha).1; omega
    rw [List.length_map, List.length_map, hl] at this; exact this
  have e1 : s1 ((byN l : Nat) : Int) = ((byN (l.map t1) : Nat) : Int) := by
    unfold s1
    have := byN_s1 l hb
    rw [r1] at this
    rw [show ((byN l : Nat) : Int) / 2 = ((byN l / 2 : Nat) : Int) by omega, show (6148914691236517205 : Int) = ((6148914691236517205 : Nat) : Int) from rfl, and_u64 _ _ (by omega) (by decide), and_u64 _ _ h (by decide), ← Int.natCast_add, this]
    exact wrap_u64 _ l1
  have e2 : s2 ((byN (l.map t1) : Nat) : Int) = ((byN ((l.map t1).map t2) : Nat) : Int) := by
    unfold s2
    have := byN_s2 (l.map t1) b1
    rw [r2] at this
    rw [show ((byN (l.map t1) : Nat) : Int) / 4 = ((byN (l.map t1) / 4 : Nat) : Int) by omega, show (3689348814741910323 : Int) = ((3689348814741910323 : Nat) : Int) from rfl, and_u64 _ _ (by omega) (by decide), and_u64 _ _ l1 (by decide), ← Int.natCast_add, this]
    exact wrap_u64 _ l2
  have e3 : s3 ((byN ((l.map t1).map t2) : Nat) : Int) = ((byN (((l.map t1).map t2).map t3) : Nat) : Int) := by
    unfold s3
    have := byN_s3 _ b2
    rw [r3] at this
    have hlt := byN_102 ((l.map t1).map t2) (fun a ha => (b2 a ha).1) 8 (by simp [hl])
    rw [show byN (List.replicate 8 1) = 72340172838076673 from rfl] at hlt
    rw [show ((byN ((l.map t1).map t2) : Nat) : Int) / 16 + ((byN ((l.map t1).map t2) : Nat) : Int) = ((byN ((l.map t1).map t2) / 16 + byN ((l.map t1).map t2) : Nat) : Int) by omega, wrap_u64 _ (by omega), show (1085102592571150095 : Int) = ((1085102592571150095 : Nat) : Int) from rfl, and_u64 _ _ (by omega) (by decide), this]
  unfold pcS
  rw [e1, e2, e3, swar_sum _ (by simp [hl]) (fun a ha => by
    obtain ⟨y, hy, rfl⟩ := List.mem_map.1 ha
    obtain ⟨z, hz, rfl⟩ := List.mem_map.1 hy
    obtain ⟨x, hx, rfl⟩ := List.mem_map.1 hz
    exact byte_pc x (hb x hx))]
  rw [List.map_map, List.map_map]
  congr 2
  exact List.map_congr_left fun x hx => pc_256 x (hb x hx)
end Go.Proofs.YtngbjdaaogbjmaaGreat

/-
  Walks: the rows of topdown as masks: has, with, without, part, size.
-/
namespace Go.Proofs.YtngbjdaaogbjmaaGreat
open Go.RowKit

/-- The words of a row. -/
def evW (c : Nat) : Nat := c % 16777216
def loW (c : Nat) : Nat := c / 16777216 % 18446744073709551616
def hiW (c : Nat) : Nat := c / 309485009821345068724781056
theorem evW_bit (c i : Nat) : (evW c).testBit i = (decide (i < 24) && c.testBit i) := by
  unfold evW; rw [show (16777216 : Nat) = 2 ^ 24 from rfl, Nat.testBit_mod_two_pow]
theorem loW_bit (c i : Nat) : (loW c).testBit i = (decide (i < 64) && c.testBit (24 + i)) := by
  unfold loW
  rw [show (18446744073709551616 : Nat) = 2 ^ 64 from rfl, show (16777216 : Nat) = 2 ^ 24 from rfl, Nat.testBit_mod_two_pow, Nat.testBit_div_two_pow, Nat.add_comm]
theorem hiW_bit (c i : Nat) : (hiW c).testBit i = c.testBit (88 + i) := by
  unfold hiW
  rw [show (309485009821345068724781056 : Nat) = 2 ^ 88 from rfl, Nat.testBit_div_two_pow, Nat.add_comm]
theorem evW_lt (c : Nat) : evW c < 16777216 := Nat.mod_lt _ (by decide)
theorem loW_lt (c : Nat) : loW c < 18446744073709551616 := Nat.mod_lt _ (by decide)
theorem hiW_lt {c : Nat} (h : RowLt 152 c) : hiW c < 18446744073709551616 := by
  have := rowLt_num h
  unfold hiW
  refine Nat.div_lt_of_lt_mul ?_
  exact Nat.lt_of_lt_of_le this (by decide)
abbrev rowV (c : Nat) : Value := .agg #[.int .i64 (evW c), .int .u64 (loW c), .int .u64 (hiW c)]
theorem bit_or_pow (c m i : Nat) : (c ||| 2 ^ m).testBit i = (c.testBit i || decide (m = i)) := by
  rw [Nat.testBit_or, Nat.testBit_two_pow]
theorem ev_with {c a : Nat} (h : a < 24) : evW (c ||| 2 ^ a) = evW c ||| 2 ^ a ∧ loW (c ||| 2 ^ a) = loW c ∧ hiW (c ||| 2 ^ a) = hiW c := by
  refine ⟨?_, ?_, ?_⟩ <;> apply Nat.eq_of_testBit_eq <;> intro i
  · rw [evW_bit, bit_or_pow, bit_or_pow, evW_bit]
    by_cases h1 : i < 24
    · simp [h1]
    · simp [h1]; omega
  · rw [loW_bit, bit_or_pow, loW_bit]
    by_cases h1 : i < 64
    · simp [h1]; omega
    · simp [h1]
  · rw [hiW_bit, bit_or_pow, hiW_bit]
    simp; omega
theorem lo_with {c j : Nat} (h : j < 64) : evW (c ||| 2 ^ (24 + j)) = evW c ∧ loW (c ||| 2 ^ (24 + j)) = loW c ||| 2 ^ j ∧ hiW (c ||| 2 ^ (24 + j)) = hiW c := by
  refine ⟨?_, ?_, ?_⟩ <;> apply Nat.eq_of_testBit_eq <;> intro i
  · rw [evW_bit, bit_or_pow, evW_bit]
    by_cases h1 : i < 24
    · simp [h1]; omega
    · simp [h1]
  · rw [loW_bit, bit_or_pow, bit_or_pow, loW_bit]
    by_cases h1 : i < 64
    · simp [h1]
    · simp [h1]; omega
  · rw [hiW_bit, bit_or_pow, hiW_bit]
    simp; omega
theorem hi_with {c j : Nat} : evW (c ||| 2 ^ (24 + (64 + j))) = evW c ∧ loW (c ||| 2 ^ (24 + (64 + j))) = loW c ∧ hiW (c ||| 2 ^ (24 + (64 + j))) = hiW c ||| 2 ^ j := by
  refine ⟨?_, ?_, ?_⟩ <;> apply Nat.eq_of_testBit_eq <;> intro i
  · rw [evW_bit, bit_or_pow, evW_bit]
    by_cases h1 : i < 24
    · simp [h1]; omega
    · simp [h1]
  · rw [loW_bit, bit_or_pow, loW_bit]
    by_cases h1 : i < 64
    · simp [h1]; omega
    · simp [h1]
  · rw [hiW_bit, bit_or_pow, bit_or_pow, hiW_bit]
    congr 1
    rw [decide_eq_decide]; omega
theorem bit_sd_pow (c m i : Nat) : (sdiff c (2 ^ m)).testBit i = (c.testBit i && !decide (m = i)) := by
  rw [sdiff_bit, Nat.testBit_two_pow]
theorem lo_without {c j : Nat} (h : j < 64) : evW (sdiff c (2 ^ (24 + j))) = evW c ∧ loW (sdiff c (2 ^ (24 + j))) = sdiff (loW c) (2 ^ j) ∧ hiW (sdiff c (2 ^ (24 + j))) = hiW c := by
  refine ⟨?_, ?_, ?_⟩ <;> apply Nat.eq_of_testBit_eq <;> intro i
  · rw [evW_bit, bit_sd_pow, evW_bit]
    by_cases h1 : i < 24
    · simp [h1]; omega
    · simp [h1]
  · rw [loW_bit, bit_sd_pow, bit_sd_pow, loW_bit]
    by_cases h1 : i < 64
    · simp [h1]
    · simp [h1]
  · rw [hiW_bit, bit_sd_pow, hiW_bit]
    simp; omega
theorem hi_without {c j : Nat} : evW (sdiff c (2 ^ (24 + (64 + j)))) = evW c ∧ loW (sdiff c (2 ^ (24 + (64 + j)))) = loW c ∧ hiW (sdiff c (2 ^ (24 + (64 + j)))) = sdiff (hiW c) (2 ^ j) := by
  refine ⟨?_, ?_, ?_⟩ <;> apply Nat.eq_of_testBit_eq <;> intro i
  · rw [evW_bit, bit_sd_pow, evW_bit]
    by_cases h1 : i < 24
    · simp [h1]; omega
    · simp [h1]
  · rw [loW_bit, bit_sd_pow, loW_bit]
    by_cases h1 : i < 64
    · simp [h1]; omega
    · simp [h1]
  · rw [hiW_bit, bit_sd_pow, bit_sd_pow, hiW_bit]
    congr 2
    rw [decide_eq_decide]; omega
theorem rhas_any {c : Nat} (hc : RowLt 152 c) (i : Nat) (hi : i < 128) (w : World) : Calls Tryz.prog 93 #[rowV c, .int .i64 i] w fun e w' => e = .returned (.bool (c.testBit (24 + i))) ∧ Kept w w' := by
  by_cases h : i < 64
  · have := has_lo (evW c) (loW c) (hiW c) i (loW_lt c) h w
    rw [loW_bit, decide_eq_true h, Bool.true_and] at this
    exact this
  · obtain ⟨j, rfl⟩ : ∃ j, i = 64 + j := ⟨i - 64, by omega⟩
    have := has_hi (evW c) (loW c) (hiW c) j (hiW_lt hc) (by omega) w
    rw [hiW_bit, show 88 + j = 24 + (64 + j) by omega] at this
    exact this
theorem rwith_any {c : Nat} (hc : RowLt 152 c) (V : Nat) (v : Value) (T : Int) (hs : ∃ a n c, v = .slice a n c) (hV : V ≤ 24) (a : Int) (ha : 0 ≤ a ∧ a < (V : Int) + 128) (w : World) :
    Calls Tryz.prog 91 #[rowV c, .agg #[.int .i64 V, v, .int .i64 T], .int .i64 a] w fun e w' => e = .returned (rowV (withC V c a)) ∧ Kept w w' := by
  obtain ⟨A, rfl⟩ := Int.eq_ofNat_of_zero_le ha.1
  unfold withC cond
  by_cases h : A < V
  · rw [if_pos (by omega), Int.toNat_natCast]
    have := with_ev (evW c) (loW c) (hiW c) A V v T hs (evW_lt c) hV h w
    obtain ⟨e1, e2, e3⟩ := ev_with (c := c) (a := A) (by omega)
    unfold rowV
    rw [e1, e2, e3]
    exact this
  · rw [if_neg (by omega)]
    obtain ⟨i, rfl⟩ : ∃ i, A = V + i := ⟨A - V, by omega⟩
    rw [show (((V + i : Nat) : Int) - (V : Int)).toNat = i by omega]
    unfold rowV
    by_cases h6 : i < 64
    · obtain ⟨e1, e2, e3⟩ := lo_with (c := c) (j := i) h6
      rw [e1, e2, e3]
      exact with_lo (evW c) (loW c) (hiW c) i V v T hs (loW_lt c) hV h6 w _ rfl
    · obtain ⟨j, rfl⟩ : ∃ j, i = 64 + j := ⟨i - 64, by omega⟩
      obtain ⟨e1, e2, e3⟩ := hi_with (c := c) (j := j)
      rw [e1, e2, e3]
      exact with_hi (evW c) (loW c) (hiW c) j V v T hs (hiW_lt hc) hV (by omega) w _ rfl
theorem rwithout_any {c : Nat} (hc : RowLt 152 c) (i : Nat) (hi : i < 128) (w : World) : Calls Tryz.prog 148 #[rowV c, .int .i64 i] w fun e w' => e = .returned (rowV (sdiff c (2 ^ (24 + i)))) ∧ Kept w w' := by
  unfold rowV
  by_cases h6 : i < 64
  · obtain ⟨e1, e2, e3⟩ := lo_without (c := c) (j := i) h6
    rw [e1, e2, e3]
    exact without_lo (evW c) (loW c) (hiW c) i (loW_lt c) h6 w _ rfl
  · obtain ⟨j, rfl⟩ : ∃ j, i = 64 + j := ⟨i - 64, by omega⟩
    obtain ⟨e1, e2, e3⟩ := hi_without (c := c) (j := j)
    rw [e1, e2, e3]
    exact without_hi (evW c) (loW c) (hiW c) j (hiW_lt hc) (by omega) w _ rfl
theorem row_join (c : Nat) : c = 2 ^ 88 * hiW c + (2 ^ 24 * loW c + evW c) := by
  unfold hiW loW evW
  have h1 := Nat.div_add_mod c 16777216
  have h2 := Nat.div_add_mod (c / 16777216) 18446744073709551616
  rw [Nat.div_div_eq_div_mul] at h2
  rw [show (309485009821345068724781056 : Nat) = 16777216 * 18446744073709551616 from rfl, show (2 : Nat) ^ 88 = 16777216 * 18446744073709551616 from rfl, show (2 : Nat) ^ 24 = 16777216 from rfl]
  generalize c / (16777216 * 18446744073709551616) = h at *
  generalize c / 16777216 % 18446744073709551616 = l at *
  omega
theorem pc_split : ∀ k n, n < 2 ^ k → ∀ h, pc (2 ^ k * h + n) = pc n + pc h := by
  intro k
  induction k with
  | zero => intro n hn h; have : n = 0 := by simpa using hn
            subst this; rw [pc_zero]; simp
  | succ k ih =>
    intro n hn h
    rw [pc_one, pc_one n]
    have e1 : (2 ^ (k + 1) * h + n) % 2 = n % 2 := by rw [Nat.pow_succ, Nat.mul_comm (2 ^ k) 2, Nat.mul_assoc]; omega
    have e2 : (2 ^ (k + 1) * h + n) / 2 = 2 ^ k * h + n / 2 := by rw [Nat.pow_succ, Nat.mul_comm (2 ^ k) 2, Nat.mul_assoc]; omega
    rw [e1, e2, ih (n / 2) (by rw [Nat.pow_succ] at hn; omega) h]
    omega
theorem pc_row (c : Nat) : pc c = pc (evW c) + pc (loW c) + pc (hiW c) := by
  have h := row_join c
  have h1 := evW_lt c
  have h2 := loW_lt c
  have e1 : 2 ^ 24 * loW c + evW c < 2 ^ 88 := by
    rw [show (2 : Nat) ^ 24 = 16777216 from rfl, show (2 : Nat) ^ 88 = 309485009821345068724781056 from rfl]; omega
  conv => lhs; rw [h]
  rw [pc_split 88 _ e1, pc_split 24 _ (by rw [show (2 : Nat) ^ 24 = 16777216 from rfl]; exact h1)]
theorem sub_row (a b : Nat) : subN a b = (subN (evW a) (evW b) && (subN (loW a) (loW b) && subN (hiW a) (hiW b))) := by
  rw [Bool.eq_iff_iff, Bool.and_eq_true, Bool.and_eq_true, subN_iff, subN_iff, subN_iff, subN_iff]
  constructor
  · intro h
    refine ⟨fun i hi => ?_, fun i hi => ?_, fun i hi => ?_⟩
    · rw [evW_bit] at hi ⊢; simp at hi ⊢; exact ⟨hi.1, h i hi.2⟩
    · rw [loW_bit] at hi ⊢; simp at hi ⊢; exact ⟨hi.1, h _ hi.2⟩
    · rw [hiW_bit] at hi ⊢; exact h _ hi
  · rintro ⟨h1, h2, h3⟩ i hi
    by_cases c1 : i < 24
    · have := h1 i (by rw [evW_bit]; simp [c1, hi])
      rw [evW_bit] at this; simp at this; exact this.2
    · by_cases c2 : i < 88
      · have := h2 (i - 24) (by rw [loW_bit, show 24 + (i - 24) = i by omega]; simp [hi]; omega)
        rw [loW_bit, show 24 + (i - 24) = i by omega] at this; simp at this; exact this.2
      · have := h3 (i - 88) (by rw [hiW_bit, show 88 + (i - 88) = i by omega]; exact hi)
        rw [hiW_bit, show 88 + (i - 88) = i by omega] at this; exact this
theorem pc_lt (n : Nat) : ∀ c, c < 2 ^ n → pc c ≤ n := by
  induction n with
  | zero => intro c h; have : c = 0 := by simpa using h
            subst this; rw [pc_zero]; omega
  | succ n ih =>
    intro c h
    rw [pc_one]
    have := ih (c / 2) (by rw [Nat.pow_succ] at h; omega)
    omega
theorem sub_i64 (a b : Nat) (ha : a < 9223372036854775808) (hb : b < 9223372036854775808) : (bits .andNot .i64 (a : Int) (b : Int) == 0) = subN a b := by
  rw [andNot_i64 a b ha hb]
  unfold subN
  rw [Bool.eq_iff_iff]; simp
theorem sub_u64 (a b : Nat) (ha : a < 18446744073709551616) (hb : b < 18446744073709551616) : (bits .andNot .u64 (a : Int) (b : Int) == 0) = subN a b := by
  rw [andNot_u64 a b ha hb]
  unfold subN
  rw [Bool.eq_iff_iff]; simp
theorem rpart_any {a b : Nat} (ha : RowLt 152 a) (hb : RowLt 152 b) (w : World) : Calls Tryz.prog 156 #[rowV a, rowV b] w fun e w' => e = .returned (.bool (subN a b)) ∧ ∃ C O, w' = (w.alloc C).alloc O := by
  have b1 := sub_i64 (evW a) (evW b) (by have := evW_lt a; omega) (by have := evW_lt b; omega)
  have b2 := sub_u64 (loW a) (loW b) (loW_lt a) (loW_lt b)
  have b3 := sub_u64 (hiW a) (hiW b) (hiW_lt ha) (hiW_lt hb)
  rw [sub_row]
  generalize subN (evW a) (evW b) = x1 at *
  generalize subN (loW a) (loW b) = x2 at *
  generalize subN (hiW a) (hiW b) = x3 at *
  unfold rowV
  generalize evW a = ea at *
  generalize evW b = eb at *
  generalize loW a = la at *
  generalize loW b = lb at *
  generalize hiW a = za at *
  generalize hiW b = zb at *
  clear ha hb
  cases x1 with
  | false =>
    go_enter Tryz.func156, Tryz.ntmps156
    go_wp2
    go_ret
    exact ⟨rfl, _, _, rfl⟩
  | true =>
    cases x2 with
    | false =>
      go_enter Tryz.func156, Tryz.ntmps156
      go_wp2
      go_ret
      exact ⟨rfl, _, _, rfl⟩
    | true =>
      go_enter Tryz.func156, Tryz.ntmps156
      go_wp2
      go_ret
      exact ⟨by cases x3 <;> rfl, _, _, rfl⟩
theorem rsize_any {c : Nat} (hc : RowLt 152 c) (w : World) : Calls Tryz.prog 153 #[rowV c] w fun e w' => e = .returned (.int .i64 (pc c)) ∧ ∃ C n, w' = (w.alloc C).drewN n := by
  have h1 : ∀ W, Calls Tryz.prog 19 #[.int .i64 (evW c)] W fun e w' => e = .returned (.int .i64 (pc (evW c))) ∧ w' = W := fun W => (count_any (evW_lt c) W).mono fun _ _ h => ⟨h.1, h.2.symm⟩
  have h2 : ∀ W, Calls Tryz.prog 101 #[.int .u64 (loW c)] W fun e w' => e = .returned (.int .i64 (pc (loW c))) ∧ w' = W := fun W => (ones64_any _ W).mono fun _ _ h => ⟨by rw [h.1, pcS_word _ (loW_lt c)], h.2.symm⟩
  have h3 : ∀ W, Calls Tryz.prog 101 #[.int .u64 (hiW c)] W fun e w' => e = .returned (.int .i64 (pc (hiW c))) ∧ w' = W := fun W => (ones64_any _ W).mono fun _ _ h => ⟨by rw [h.1, pcS_word _ (hiW_lt hc)], h.2.symm⟩
  have e1 := pc_lt 24 (evW c) (evW_lt c)
  have e2 := pc_lt 64 (loW c) (loW_lt c)
  have e3 := pc_lt 64 (hiW c) (hiW_lt hc)
  rw [pc_row c]
  unfold rowV
  generalize pc (evW c) = p1 at *
  generalize pc (loW c) = p2 at *
  generalize pc (hiW c) = p3 at *
  generalize evW c = ea at *
  generalize loW c = la at *
  generalize hiW c = za at *
  have H1 := Lib.hid h1
  have H2 := Lib.hid h2
  have H3 := Lib.hid h3
  have w1 : IntKind.i64.wrap ((p1 : Int) + (p2 : Int)) = (p1 : Int) + (p2 : Int) := by rw [IntKind.wrap_i64]; omega
  have w2 : IntKind.i64.wrap ((p1 : Int) + (p2 : Int) + (p3 : Int)) = (p1 : Int) + (p2 : Int) + (p3 : Int) := by rw [IntKind.wrap_i64]; omega
  clear h1 h2 h3 hc
  go_enter Tryz.func153, Tryz.ntmps153
  go_wp2
  go_quiet ((first | (go_at_call 19; exact Calls.quiet_of_same (H1.out _)) | (go_at_call 101; (with_reducible exact Calls.quiet_of_same (H2.out _))) | (go_at_call 101; (with_reducible exact Calls.quiet_of_same (H3.out _)))))
  go_wp2
  go_ret
  exact ⟨by simp, _, _, rfl⟩
end Go.Proofs.YtngbjdaaogbjmaaGreat

/-
  Plain: the stable merge of slices.SortStableFunc on arrays: what swapRange, rotate and symMerge lay; that a merge of sorted parts is sorted.
-/
namespace Go.Proofs.YtngbjdaaogbjmaaGreat
open Go.Sort

section
variable {α : Type}
def swF (a b n : Nat) (f : Nat → α) (x : Nat) : α := if a ≤ x ∧ x < a + n then f (x + (b - a)) else if b ≤ x ∧ x < b + n then f (x - (b - a)) else f x
def rotF (a m b : Nat) (f : Nat → α) (x : Nat) : α := if a ≤ x ∧ x < a + (b - m) then f (x + (m - a)) else if a + (b - m) ≤ x ∧ x < b then f (x - (b - m)) else f x
theorem swF_zero (a b : Nat) (f : Nat → α) (x : Nat) : swF a b 0 f x = f x := by
  unfold swF; rw [if_neg (by omega), if_neg (by omega)]
theorem swF_step (a b n : Nat) (f : Nat → α) (h : a + n < b) (x : Nat) :
    (if x = b + n then swF a b n f (a + n) else if x = a + n then swF a b n f (b + n) else swF a b n f x) = swF a b (n + 1) f x := by
  unfold swF
  by_cases h1 : x = b + n
  · subst h1
    rw [if_pos rfl, if_neg (by omega), if_neg (by omega), if_neg (by omega), if_pos (by omega)]
    congr 1; omega
  · rw [if_neg h1]
    by_cases h2 : x = a + n
    · subst h2
      rw [if_pos rfl, if_neg (by omega), if_neg (by omega), if_pos (by omega)]
      congr 1; omega
    · rw [if_neg h2]
      by_cases h3 : a ≤ x ∧ x < a + n
      · rw [if_pos h3, if_pos (by omega)]
      · rw [if_neg h3]
        by_cases h4 : b ≤ x ∧ x < b + n
        · rw [if_pos h4, if_neg (by omega), if_pos (by omega)]
        · rw [if_neg h4, if_neg (by omega), if_neg (by omega)]
theorem rot_gt (m i j : Nat) (hi : i ≤ m) (hj : j < i) (f : Nat → α) (x : Nat) : rotF (m - (i - j)) m (m + j) (swF (m - i) m j f) x = rotF (m - i) m (m + j) f x := by
  unfold rotF swF
  repeat' split
  all_goals first | (exfalso; omega) | rfl | (congr 1 <;> omega)
theorem rot_lt (m i j : Nat) (hi : i ≤ m) (hj : i < j) (f : Nat → α) (x : Nat) : rotF (m - i) m (m + (j - i)) (swF (m - i) (m + j - i) i f) x = rotF (m - i) m (m + j) f x := by
  unfold rotF swF
  repeat' split
  all_goals first | (exfalso; omega) | rfl | (congr 1 <;> omega)
theorem rot_eq (m i : Nat) (hi : i ≤ m) (f : Nat → α) (x : Nat) : swF (m - i) m i f x = rotF (m - i) m (m + i) f x := by
  unfold rotF swF
  repeat' split
  all_goals first | (exfalso; omega) | rfl | (congr 1 <;> omega)
theorem rot_up (a k : Nat) (h : a ≤ k) (f : Nat → α) (x : Nat) :
    (if x = k + 1 then rotF a (a + 1) (k + 1) f k else if x = k then rotF a (a + 1) (k + 1) f (k + 1) else rotF a (a + 1) (k + 1) f x) = rotF a (a + 1) (k + 2) f x := by
  unfold rotF
  repeat' split
  all_goals first | (exfalso; omega) | rfl | (congr 1 <;> omega)
theorem rot_down (k m : Nat) (h : k + 1 ≤ m) (f : Nat → α) (x : Nat) :
    (if x = k then rotF (k + 1) m (m + 1) f (k + 1) else if x = k + 1 then rotF (k + 1) m (m + 1) f k else rotF (k + 1) m (m + 1) f x) = rotF k m (m + 1) f x := by
  unfold rotF
  repeat' split
  all_goals first | (exfalso; omega) | rfl | (congr 1 <;> omega)
theorem rot_left (a b : Nat) (f : Nat → α) (x : Nat) : rotF a a b f x = f x := by
  unfold rotF
  repeat' split
  all_goals first | (exfalso; omega) | rfl | (congr 1 <;> omega)
theorem rot_right (a b : Nat) (f : Nat → α) (x : Nat) : rotF a b b f x = f x := by
  unfold rotF
  repeat' split
  all_goals first | (exfalso; omega) | rfl | (congr 1 <;> omega)
end
section
variable {α : Type} [Inhabited α] {lt : α → α → Bool}
def atA (d : Array α) (x : Nat) : α := d[x]!
/-- d' is d with the blocks [a, m) and [m, b) in the other order. -/
def Rot (a m b : Nat) (d d' : Array α) : Prop := PermIn a b d d' ∧ ∀ x, d'[x]! = rotF a m b (atA d) x
def Swd (a b n : Nat) (d d' : Array α) : Prop := PermIn a (b + n) d d' ∧ ∀ x, d'[x]! = swF a b n (atA d) x
theorem Swd.start (a b : Nat) (d : Array α) : Swd a b 0 d d := ⟨permIn_refl _ _ _, fun x => (swF_zero a b (atA d) x).symm⟩
theorem Swd.step {a b n : Nat} {d d' : Array α} (h : Swd a b n d d') (h1 : a + n < b) (h2 : b + n < d.size) : Swd a b (n + 1) d (swp d' (a + n) (b + n)) := by
  have hs : d'.size = d.size := h.1.1
  refine ⟨permIn_trans _ _ _ _ _ (permIn_mono _ _ _ _ _ _ (Nat.le_refl _) (by omega) (by omega) h.1) (swp_permIn _ _ _ _ _ (by omega) (by omega) (by omega) (by omega) (by omega)), fun x => ?_⟩
  rw [Go.Sort.swp_get d' (by omega) (by omega), ← swF_step a b n (atA d) h1 x, h.2, h.2, h.2]
/-- rotate's loop: what is still to be turned. -/
def RotTo (a m b : Nat) (d : Array α) (i j : Nat) (dk : Array α) : Prop := PermIn a b d dk ∧ (∀ x, rotF (m - i) m (m + j) (atA dk) x = rotF a m b (atA d) x) ∧ a ≤ m - i ∧ i ≤ m ∧ m + j ≤ b
theorem RotTo.start {a m b : Nat} (d : Array α) (h1 : a ≤ m) (h2 : m ≤ b) : RotTo a m b d (m - a) (b - m) d :=
  ⟨permIn_refl _ _ _, fun x => by rw [show m - (m - a) = a by omega, show m + (b - m) = b by omega], by omega, by omega, by omega⟩
theorem RotTo.right {a m b i j : Nat} {d dk dn : Array α} (h : RotTo a m b d i j dk) (hb : b ≤ d.size) (hj : j < i) (hs : Swd (m - i) m j dk dn) : RotTo a m b d (i - j) j dn := by
  obtain ⟨h1, h2, h3, h4, h5⟩ := h
  refine ⟨permIn_trans _ _ _ _ _ h1 (permIn_mono _ _ _ _ _ _ h3 h5 (by rw [h1.1]; exact hb) hs.1), fun x => ?_, by omega, by omega, h5⟩
  rw [← h2, ← rot_gt m i j h4 hj (atA dk) x]
  have e : atA dn = swF (m - i) m j (atA dk) := funext hs.2
  rw [e]
theorem RotTo.left {a m b i j : Nat} {d dk dn : Array α} (h : RotTo a m b d i j dk) (hb : b ≤ d.size) (hj : i < j) (hs : Swd (m - i) (m + j - i) i dk dn) : RotTo a m b d i (j - i) dn := by
  obtain ⟨h1, h2, h3, h4, h5⟩ := h
  refine ⟨permIn_trans _ _ _ _ _ h1 (permIn_mono _ _ _ _ _ _ h3 (by omega) (by rw [h1.1]; exact hb) hs.1), fun x => ?_, h3, h4, by omega⟩
  rw [← h2, ← rot_lt m i j h4 hj (atA dk) x]
  have e : atA dn = swF (m - i) (m + j - i) i (atA dk) := funext hs.2
  rw [e]
theorem RotTo.done {a m b i : Nat} {d dk dn : Array α} (h : RotTo a m b d i i dk) (hb : b ≤ d.size) (hs : Swd (m - i) m i dk dn) : Rot a m b d dn := by
  obtain ⟨h1, h2, h3, h4, h5⟩ := h
  refine ⟨permIn_trans _ _ _ _ _ h1 (permIn_mono _ _ _ _ _ _ h3 h5 (by rw [h1.1]; exact hb) hs.1), fun x => ?_⟩
  rw [← h2, ← rot_eq m i h4 (atA dk) x]
  exact hs.2 x
theorem Rot.one (a : Nat) (d : Array α) : Rot a (a + 1) (a + 1) d d := ⟨permIn_refl _ _ _, fun x => (rot_right a (a + 1) (atA d) x).symm⟩
theorem Rot.up {a k : Nat} {d d' : Array α} (h : Rot a (a + 1) (k + 1) d d') (hk : a ≤ k) (hb : k + 1 < d.size) : Rot a (a + 1) (k + 2) d (swp d' k (k + 1)) := by
  have hs : d'.size = d.size := h.1.1
  refine ⟨permIn_trans _ _ _ _ _ (permIn_mono _ _ _ _ _ _ (Nat.le_refl _) (by omega) (by omega) h.1) (swp_permIn _ _ _ _ _ (by omega) (by omega) (by omega) (by omega) (by omega)), fun x => ?_⟩
  rw [Go.Sort.swp_get d' (by omega) (by omega), ← rot_up a k hk (atA d) x, h.2, h.2, h.2]
theorem Rot.none (m b : Nat) (d : Array α) : Rot m m b d d := ⟨permIn_refl _ _ _, fun x => (rot_left m b (atA d) x).symm⟩
theorem Rot.down {k m : Nat} {d d' : Array α} (h : Rot (k + 1) m (m + 1) d d') (hk : k + 1 ≤ m) (hb : m < d.size) : Rot k m (m + 1) d (swp d' (k + 1) k) := by
  have hs : d'.size = d.size := h.1.1
  refine ⟨permIn_trans _ _ _ _ _ (permIn_mono _ _ _ _ _ _ (by omega) (Nat.le_refl _) (by omega) h.1) (swp_permIn _ _ _ _ _ (by omega) (by omega) (by omega) (by omega) (by omega)), fun x => ?_⟩
  rw [Go.Sort.swp_get d' (by omega) (by omega), ← rot_down k m hk (atA d) x, h.2, h.2, h.2]
/-- A merge. -/
def Mrg (lt : α → α → Bool) (a b : Nat) (d d' : Array α) : Prop := PermIn a b d d' ∧ SortedIn lt a b d'
omit [Inhabited α] in
theorem le_trans' (hS : SWO lt) {x y z : α} (h1 : lt y x = false) (h2 : lt z y = false) : lt z x = false := hS.ntrans z y x h2 h1
theorem sorted_le (hS : SWO lt) {a b : Nat} {d : Array α} (h : SortedIn lt a b d) {i j : Nat} (hi : a ≤ i) (hij : i ≤ j) (hj : j < b) : lt d[j]! d[i]! = false := by
  by_cases e : i = j
  · subst e; exact hS.irrefl _
  · exact h i j hi (by omega) hj
/-- One element put in from the left. -/
theorem mrg_left (hS : SWO lt) {a i b : Nat} {d d' : Array α} (hR : Rot a (a + 1) i d d') (hi : a + 1 ≤ i) (hib : i ≤ b) (hbs : b ≤ d.size) (hs : SortedIn lt (a + 1) b d) (h1 : ∀ x, a + 1 ≤ x → x < i → lt d[x]! d[a]! = true) (h2 : ∀ x, i ≤ x → x < b → lt d[x]! d[a]! = false) : Mrg lt a b d d' := by
  refine ⟨permIn_mono _ _ _ _ _ _ (Nat.le_refl _) hib hbs hR.1, fun p q hp hpq hq => ?_⟩
  rw [hR.2, hR.2]
  unfold rotF atA
  by_cases c1 : q < i - 1
  · rw [if_pos (by omega), if_pos (by omega)]
    exact sorted_le hS hs (by omega) (by omega) (by omega)
  · by_cases c2 : q = i - 1
    · rw [if_neg (by omega), if_pos (by omega), if_pos (by omega)]
      have e : q - (i - (a + 1)) = a := by omega
      rw [e]
      exact hS.asymm (h1 _ (by omega) (by omega))
    · by_cases c3 : p < i - 1
      · rw [if_neg (by omega), if_neg (by omega), if_pos (by omega)]
        exact sorted_le hS hs (by omega) (by omega) (by omega)
      · by_cases c4 : p = i - 1
        · rw [if_neg (by omega), if_neg (by omega), if_neg (by omega), if_pos (by omega)]
          rw [show p - (i - (a + 1)) = a by omega]
          exact h2 q (by omega) hq
        · rw [if_neg (by omega), if_neg (by omega), if_neg (by omega), if_neg (by omega)]
          exact sorted_le hS hs (by omega) (by omega) (by omega)
/-- One element put in from the right. -/
theorem mrg_right (hS : SWO lt) {a i m : Nat} {d d' : Array α} (hR : Rot i m (m + 1) d d') (hi : a ≤ i) (him : i ≤ m) (hbs : m + 1 ≤ d.size) (hs : SortedIn lt a m d) (h1 : ∀ x, a ≤ x → x < i → lt d[m]! d[x]! = false) (h2 : ∀ x, i ≤ x → x < m → lt d[m]! d[x]! = true) : Mrg lt a (m + 1) d d' := by
  refine ⟨permIn_mono _ _ _ _ _ _ hi (Nat.le_refl _) hbs hR.1, fun p q hp hpq hq => ?_⟩
  rw [hR.2, hR.2]
  unfold rotF atA
  by_cases c1 : q < i
  · rw [if_neg (by omega), if_neg (by omega), if_neg (by omega), if_neg (by omega)]
    exact sorted_le hS hs (by omega) (by omega) (by omega)
  · by_cases c2 : q = i
    · rw [if_pos (by omega), if_neg (by omega), if_neg (by omega)]
      rw [show q + (m - i) = m by omega]
      exact h1 p hp (by omega)
    · by_cases c3 : p < i
      · rw [if_neg (by omega), if_pos (by omega), if_neg (by omega), if_neg (by omega)]
        exact sorted_le hS hs (by omega) (by omega) (by omega)
      · by_cases c4 : p = i
        · rw [if_neg (by omega), if_pos (by omega), if_pos (by omega)]
          rw [show p + (m - i) = m by omega]
          exact hS.asymm (h2 _ (by omega) (by omega))
        · rw [if_neg (by omega), if_pos (by omega), if_neg (by omega), if_pos (by omega)]
          exact sorted_le hS hs (by omega) (by omega) (by omega)
/-- What symMerge's search finds. -/
structure Cutd (lt : α → α → Bool) (a m b mid s : Nat) (d : Array α) : Prop where
  h1 : a ≤ s
  h2 : s ≤ m
  h3 : s ≤ mid
  h4 : m ≤ mid + m - s
  h5 : mid + m - s ≤ b
  low : (mid < m ∧ s = mid + m - b) ∨ (m ≤ mid ∧ s = a) ∨ (a < s ∧ mid + m - s < b ∧ lt d[mid + m - s]! d[s - 1]! = false)
  high : (mid < m ∧ s = mid) ∨ (m ≤ mid ∧ s = m) ∨ (s < m ∧ m < mid + m - s ∧ lt d[mid + m - s - 1]! d[s]! = true)
theorem mrg_parts (hS : SWO lt) {a m b mid s : Nat} {d d1 d2 d3 : Array α} (ham : a < m) (hmb : m < b) (hmid : mid = (a + b) / 2) (hb : b ≤ d.size) (hl : SortedIn lt a m d) (hr : SortedIn lt m b d) (hc : Cutd lt a m b mid s d)
    (hR : Rot s m (mid + m - s) d d1) (h2 : Mrg lt a mid d1 d2) (h3 : Mrg lt mid b d2 d3) : Mrg lt a b d d3 := by
  obtain ⟨c1, c2, c3, c4, c5, cl, ch⟩ := hc
  have hs1 : d1.size = d.size := hR.1.1
  have hs2 : d2.size = d.size := h2.1.1.trans hs1
  have p1 : PermIn a b d d1 := permIn_mono _ _ _ _ _ _ c1 c5 hb hR.1
  have p2 : PermIn a b d1 d2 := permIn_mono _ _ _ _ _ _ (Nat.le_refl _) (by omega) (by omega) h2.1
  have p3 : PermIn a b d2 d3 := permIn_mono _ _ _ _ _ _ (by omega) (Nat.le_refl _) (by omega) h3.1
  refine ⟨permIn_trans _ _ _ _ _ (permIn_trans _ _ _ _ _ p1 p2) p3, fun p q hp hpq hq => ?_⟩
  -- cross
  have cross1 : ∀ i j, a ≤ i → i < mid → mid ≤ j → j < b → lt d1[j]! d1[i]! = false := by
    intro i j hi1 hi2 hj1 hj2
    rw [hR.2, hR.2]
    unfold rotF atA
    have ll : ∀ i j, a ≤ i → i < s → s ≤ j → j < m → lt d[j]! d[i]! = false := fun i j h1 h2 h3 h4 => sorted_le hS hl h1 (by omega) h4
    have rr : ∀ i j, m ≤ i → i < mid + m - s → mid + m - s ≤ j → j < b → lt d[j]! d[i]! = false := fun i j h1 h2 h3 h4 => sorted_le hS hr h1 (by omega) h4
    have lr : ∀ i j, a ≤ i → i < s → mid + m - s ≤ j → j < b → lt d[j]! d[i]! = false := by
      intro i j h1 h2 h3 h4
      rcases cl with cl | cl | cl
      · omega
      · omega
      · exact le_trans' hS (le_trans' hS (sorted_le hS hl h1 (show i ≤ s - 1 by omega) (by omega)) cl.2.2) (sorted_le hS hr (by omega) h3 h4)
    have rl : ∀ i j, m ≤ i → i < mid + m - s → s ≤ j → j < m → lt d[j]! d[i]! = false := by
      intro i j h1 h2 h3 h4
      rcases ch with ch | ch | ch
      · omega
      · omega
      · exact le_trans' hS (le_trans' hS (sorted_le hS hr h1 (show i ≤ mid + m - s - 1 by omega) (by omega)) (hS.asymm ch.2.2)) (sorted_le hS hl (by omega) h3 h4)
    by_cases k1 : i < s
    · have ei : (if s ≤ i ∧ i < s + (mid + m - s - m) then d[i + (m - s)]! else if s + (mid + m - s - m) ≤ i ∧ i < mid + m - s then d[i - (mid + m - s - m)]! else d[i]!) = d[i]! := by rw [if_neg (by omega), if_neg (by omega)]
      rw [ei]
      by_cases k2 : j < mid + m - s
      · rw [if_neg (by omega), if_pos (by omega)]
        exact ll _ _ hi1 k1 (by omega) (by omega)
      · rw [if_neg (by omega), if_neg (by omega)]
        exact lr _ _ hi1 k1 (by omega) hj2
    · have ei : (if s ≤ i ∧ i < s + (mid + m - s - m) then d[i + (m - s)]! else if s + (mid + m - s - m) ≤ i ∧ i < mid + m - s then d[i - (mid + m - s - m)]! else d[i]!) = d[i + (m - s)]! := by rw [if_pos (by omega)]
      rw [ei]
      by_cases k2 : j < mid + m - s
      · rw [if_neg (by omega), if_pos (by omega)]
        exact rl _ _ (by omega) (by omega) (by omega) (by omega)
      · rw [if_neg (by omega), if_neg (by omega)]
        exact rr _ _ (by omega) (by omega) (by omega) hj2
  have cross2 : ∀ i j, a ≤ i → i < mid → mid ≤ j → j < b → lt d2[j]! d2[i]! = false := by
    intro i j hi1 hi2 hj1 hj2
    rw [h2.1.2.1 j (by omega)]
    exact permIn_all d1 d2 a mid (fun x => lt d1[j]! x = false) (by omega) h2.1 (fun i h1 h2 => cross1 i j h1 h2 hj1 hj2) i hi1 hi2
  have cross3 : ∀ i j, a ≤ i → i < mid → mid ≤ j → j < b → lt d3[j]! d3[i]! = false := by
    intro i j hi1 hi2 hj1 hj2
    rw [h3.1.2.1 i (by omega)]
    exact permIn_all d2 d3 mid b (fun x => lt x d2[i]! = false) (by omega) h3.1 (fun j h1 h2 => cross2 i j hi1 hi2 h1 h2) j hj1 hj2
  by_cases k1 : q < mid
  · have s3 : ∀ x, x < mid → d3[x]! = d2[x]! := fun x hx => h3.1.2.1 x (by omega)
    rw [s3 q k1, s3 p (by omega)]
    exact h2.2 p q hp hpq k1
  · by_cases k2 : p < mid
    · exact cross3 p q hp k2 (by omega) hq
    · exact h3.2 p q (by omega) hpq hq
end
end Go.Proofs.YtngbjdaaogbjmaaGreat

/-
  Walks: slices.SortStableFunc at the rows of topdown: the closure, insertionSort's contract laid, swapRange, rotate.
-/
namespace Go.Proofs.YtngbjdaaogbjmaaGreat
open Go.Shelf Go.RowKit Go.Lib Go.Sort

def rcells (c : Nat) : List Value := [.int .i64 (evW c), .int .u64 (loW c), .int .u64 (hiW c)]
/-- A number as a row: its low bits. -/
def lowR (c : Nat) : Nat := c % 5708990770823839524233143877797980545530986496
theorem lowR_lt (c : Nat) : RowLt 152 (lowR c) := rowLt_of_num (Nat.lt_of_lt_of_le (Nat.mod_lt _ (by decide)) (by decide))
theorem lowR_of {c : Nat} (h : RowLt 152 c) : lowR c = c := Nat.mod_eq_of_lt (Nat.lt_of_lt_of_le (rowLt_num h) (by decide))
def encR (c : Nat) : List Value := rcells (lowR c)
def cfR (a b : Nat) : Int := (pc (lowR a) : Int) - (pc (lowR b) : Int)
theorem ltR (a b : Nat) : ltOf cfR a b = decide (pc (lowR a) < pc (lowR b)) := by
  unfold ltOf cfR
  rw [decide_eq_decide]; omega
theorem swoR : SWO (ltOf cfR) where
  irrefl x := by rw [ltR]; simp
  trans x y z h1 h2 := by rw [ltR] at *; simp at *; omega
  ntrans x y z h1 h2 := by rw [ltR] at *; simp at *; omega
theorem drewN_alloc_grow (w : World) (C : Obj) (n : Nat) : (w.alloc C).drewN n = grow (w.drewN n) #[C] := by
  rw [alloc_eq_grow]; rfl
theorem grow_two (W : World) (X Y : Obj) (n : Nat) (os : Array Obj) : grow (((W.alloc X).alloc Y).drewN n) os = grow (W.drewN n) (#[X] ++ (#[Y] ++ os)) := by
  rw [alloc_eq_grow, alloc_eq_grow]
  show grow (grow (grow (W.drewN n) #[X]) #[Y]) os = _
  rw [grow_grow, grow_grow]
set_option maxRecDepth 100000 in
theorem leastCmp (x y : Nat) (W : World) : Calls Tryz.prog 152 #[.agg (encR x).toArray, .agg (encR y).toArray] W fun e w' => e = .returned (.int .i64 (cfR x y)) ∧ ∃ q os', w' = grow (W.drewN q) os' := by
  have hx : ∀ W', Calls Tryz.prog 153 #[.agg (encR x).toArray] W' fun e w' => e = .returned (.int .i64 (pc (lowR x))) ∧ ∃ q os', w' = grow (W'.drewN q) os' := fun W' => (rsize_any (lowR_lt x) W').mono fun _ _ ⟨h1, C, n, h2⟩ => ⟨h1, n, _, h2.trans (drewN_alloc_grow W' C n)⟩
  have hy : ∀ W', Calls Tryz.prog 153 #[.agg (encR y).toArray] W' fun e w' => e = .returned (.int .i64 (pc (lowR y))) ∧ ∃ q os', w' = grow (W'.drewN q) os' := fun W' => (rsize_any (lowR_lt y) W').mono fun _ _ ⟨h1, C, n, h2⟩ => ⟨h1, n, _, h2.trans (drewN_alloc_grow W' C n)⟩
  have bx := pc_lt 152 (lowR x) (rowLt_num (lowR_lt x))
  have by' := pc_lt 152 (lowR y) (rowLt_num (lowR_lt y))
  unfold cfR
  unfold encR rcells at *
  generalize pc (lowR x) = px at *
  generalize pc (lowR y) = py at *
  generalize evW (lowR x) = x0 at *
  generalize loW (lowR x) = x1 at *
  generalize hiW (lowR x) = x2 at *
  generalize evW (lowR y) = y0 at *
  generalize loW (lowR y) = y1 at *
  generalize hiW (lowR y) = y2 at *
  have w1 : IntKind.i64.wrap ((px : Int) - (py : Int)) = (px : Int) - (py : Int) := by rw [IntKind.wrap_i64]; omega
  have mixed : Tryz.prog.follows .mixedOrders = true := by kernel_rfl
  have cx : ∀ n os, (grow ((((W.alloc (.cells #[.int .i64 x0, .int .u64 x1, .int .u64 x2] 86)).alloc (.cells #[.int .i64 y0, .int .u64 y1, .int .u64 y2] 86))).drewN n) os).cell? ⟨W.heap.size, 0, none⟩ = some (.int .i64 x0) ∧ (grow ((((W.alloc (.cells #[.int .i64 x0, .int .u64 x1, .int .u64 x2] 86)).alloc (.cells #[.int .i64 y0, .int .u64 y1, .int .u64 y2] 86))).drewN n) os).cell? ⟨W.heap.size, 1, none⟩ = some (.int .u64 x1) ∧ (grow ((((W.alloc (.cells #[.int .i64 x0, .int .u64 x1, .int .u64 x2] 86)).alloc (.cells #[.int .i64 y0, .int .u64 y1, .int .u64 y2] 86))).drewN n) os).cell? ⟨W.heap.size, 2, none⟩ = some (.int .u64 x2) := fun n os => by
    refine ⟨?_, ?_, ?_⟩ <;> (rw [cell?_grow _ _ _ (by simp; omega)]; simp)
  have cy : ∀ n os, (grow ((((W.alloc (.cells #[.int .i64 x0, .int .u64 x1, .int .u64 x2] 86)).alloc (.cells #[.int .i64 y0, .int .u64 y1, .int .u64 y2] 86))).drewN n) os).cell? ⟨W.heap.size + 1, 0, none⟩ = some (.int .i64 y0) ∧ (grow ((((W.alloc (.cells #[.int .i64 x0, .int .u64 x1, .int .u64 x2] 86)).alloc (.cells #[.int .i64 y0, .int .u64 y1, .int .u64 y2] 86))).drewN n) os).cell? ⟨W.heap.size + 1, 1, none⟩ = some (.int .u64 y1) ∧ (grow ((((W.alloc (.cells #[.int .i64 x0, .int .u64 x1, .int .u64 x2] 86)).alloc (.cells #[.int .i64 y0, .int .u64 y1, .int .u64 y2] 86))).drewN n) os).cell? ⟨W.heap.size + 1, 2, none⟩ = some (.int .u64 y2) := fun n os => by
    refine ⟨?_, ?_, ?_⟩ <;> (rw [cell?_grow _ _ _ (by simp)]; simp)
  have HX : Hid _ := hx
  have HY : Hid _ := hy
  clear hx hy
  show Calls Tryz.prog 152 #[.agg #[.int .i64 x0, .int .u64 x1, .int .u64 x2], .agg #[.int .i64 y0, .int .u64 y1, .int .u64 y2]] W _
  go_enter Tryz.func152, Tryz.ntmps152
  go_wp2
  go_quiet_grown (first | (go_at_call 153; (with_reducible refine Calls.grown_of (HX.out _))) | (go_at_call 153; (with_reducible refine Calls.grown_of (HY.out _))))
  go_wp2
  go_ret
  exact ⟨rfl, nq, _, grow_two _ _ _ _ _⟩
end Go.Proofs.YtngbjdaaogbjmaaGreat

/-
  Walks over a program that is a variable: swapRange and rotate of slices.SortStableFunc at the rows of topdown.
-/
namespace Go.Proofs.YtngbjdaaogbjmaaGreat
open Go.Shelf Go.RowKit Go.Lib Go.Sort

/-- What the walks want of the program. -/
structure StL (P : Program) (k : Nat) : Prop where
  mixed : P.follows .mixedOrders = true
  g148 : P.funcs[211]? = some Tryz.f211
  g147 : P.funcs[209]? = some Tryz.f209
  g145 : P.funcs[206]? = some Tryz.f206
  t0 : P.underlying 0 = some (TypeDesc.tuple #[])
  a0 : ∀ (w : World), Sem.run P (isAgg 0) w = Result.ok false w
  z0 : ∀ (w : World), Sem.run P (Go.sizeOf 0) w = Result.ok 1 w
  v0 : ∀ (w : World), Sem.run P (zeroValue 0) w = Result.ok (Value.tuple #[]) w
  t3 : P.underlying 3 = some (TypeDesc.int IntKind.i64)
  a3 : ∀ (w : World), Sem.run P (isAgg 3) w = Result.ok false w
  z3 : ∀ (w : World), Sem.run P (Go.sizeOf 3) w = Result.ok 1 w
  v3 : ∀ (w : World), Sem.run P (zeroValue 3) w = Result.ok (Value.int IntKind.i64 0) w
  t4 : P.underlying 4 = some TypeDesc.bool
  a4 : ∀ (w : World), Sem.run P (isAgg 4) w = Result.ok false w
  z4 : ∀ (w : World), Sem.run P (Go.sizeOf 4) w = Result.ok 1 w
  v4 : ∀ (w : World), Sem.run P (zeroValue 4) w = Result.ok (Value.bool false) w
  tu : P.underlying 90 = some (TypeDesc.int IntKind.u64)
  au : ∀ (w : World), Sem.run P (isAgg 90) w = Result.ok false w
  zu : ∀ (w : World), Sem.run P (Go.sizeOf 90) w = Result.ok 1 w
  vu : ∀ (w : World), Sem.run P (zeroValue 90) w = Result.ok (Value.int IntKind.u64 0) w
  t22 : P.underlying 80 = some (TypeDesc.slice 86)
  a22 : ∀ (w : World), Sem.run P (isAgg 80) w = Result.ok false w
  z22 : ∀ (w : World), Sem.run P (Go.sizeOf 80) w = Result.ok 1 w
  v22 : ∀ (w : World), Sem.run P (zeroValue 80) w = Result.ok (Value.slice none 0 0) w
  t25 : P.underlying 165 = some (TypeDesc.func #[86, 86] #[3] false)
  a25 : ∀ (w : World), Sem.run P (isAgg 165) w = Result.ok false w
  z25 : ∀ (w : World), Sem.run P (Go.sizeOf 165) w = Result.ok 1 w
  v25 : ∀ (w : World), Sem.run P (zeroValue 165) w = Result.ok Value.nilFunc w
  aE : ∀ (w : World), Sem.run P (isAgg 86) w = Result.ok true w
  zE : ∀ (w : World), Sem.run P (Go.sizeOf 86) w = Result.ok k w
theorem stL : StL Tryz.prog 3 where
  mixed := by kernel_rfl
  g148 := Tryz.func211
  g147 := Tryz.func209
  g145 := Tryz.func206
  t0 := Tryz.underlying0
  a0 := Tryz.isAgg0
  z0 := Tryz.sizeOf0
  v0 := Tryz.zeroValue0
  t3 := Tryz.underlying3
  a3 := Tryz.isAgg3
  z3 := Tryz.sizeOf3
  v3 := Tryz.zeroValue3
  t4 := Tryz.underlying4
  a4 := Tryz.isAgg4
  z4 := Tryz.sizeOf4
  v4 := Tryz.zeroValue4
  tu := Tryz.underlying90
  au := Tryz.isAgg90
  zu := Tryz.sizeOf90
  vu := Tryz.zeroValue90
  t22 := Tryz.underlying80
  a22 := Tryz.isAgg80
  z22 := Tryz.sizeOf80
  v22 := Tryz.zeroValue80
  t25 := Tryz.underlying165
  a25 := Tryz.isAgg165
  z25 := Tryz.sizeOf165
  v25 := Tryz.zeroValue165
  aE := Tryz.isAgg86
  zE := Tryz.sizeOf86
section
variable {P : Program} {α : Type} [Inhabited α]
set_option maxHeartbeats 4000000 in
set_option maxRecDepth 1000000 in
theorem swapRange_o (k : Nat) (L : StL P k) (enc : α → List Value) (g : Nat) (cb : Array Value) (blk off cap a b n : Nat) (d0 d : Array α) (w0 w : World)
    (R : RowK enc k w0 blk off d0) (hs : d0.size = d.size) (S : SWK enc k w0 blk off d w) (hab : a + n ≤ b) (hb : b + n ≤ d.size) (hsz : d.size < 4611686018427387904) :
    Calls P 211 #[.slice (some ⟨blk, off, none⟩) d.size cap, .int .i64 a, .int .i64 b, .int .i64 n, .func (.func g) #[] cb] w fun e w' => e = .returned (.tuple #[]) ∧ ∃ dn, Swd a b n d dn ∧ SWK enc k w0 blk off dn w' := by
  have mixed := L.mixed; have t0 := L.t0; have a0 := L.a0; have z0 := L.z0; have v0 := L.v0; have t3 := L.t3; have a3 := L.a3; have z3 := L.z3; have v3 := L.v3; have t4 := L.t4; have a4 := L.a4; have z4 := L.z4; have v4 := L.v4; have t22 := L.t22; have a22 := L.a22; have z22 := L.z22; have v22 := L.v22; have t25 := L.t25; have a25 := L.a25; have z25 := L.z25; have v25 := L.v25; have aE := L.aE; have zE := L.zE
  have FG := L.g148
  have S0 : Aside (SWK enc k w0 blk off d w) := S
  clear S L
  go_enter FG, Tryz.ntmps211
  go_wp2
  go_loopg [10] n (fun kx s10 wr => ∃ (q : Nat) (dk : Array α), s10 = .int .i64 q ∧ q ≤ n ∧ n - q ≤ kx ∧ dk.size = d.size ∧ Aside (SWK enc k w0 blk off dk wr) ∧ Hid (Swd a b q d dk))
  case atStart => exact ⟨0, d, rfl, Nat.zero_le _, by omega, rfl, S0, Lib.hid (Swd.start a b d)⟩
  case round =>
    clear S0
    obtain ⟨q, dk, rfl, hq, hkx, hds, S1, HW⟩ := hrel
    by_cases hlt : q < n
    · have hltz : (q : Int) < (n : Int) := by omega
      go_wp2_with fail
      have wa : IntKind.i64.wrap ((a : Int) + (q : Int)) = ((a + q : Nat) : Int) := by rw [IntKind.wrap_i64]; omega
      have wa' : (a : Int) + (q : Int) = ((a + q : Nat) : Int) := by omega
      have wb : IntKind.i64.wrap ((b : Int) + (q : Int)) = ((b + q : Nat) : Int) := by rw [IntKind.wrap_i64]; omega
      have wb' : (b : Int) + (q : Int) = ((b + q : Nat) : Int) := by omega
      obtain ⟨x, hx⟩ : ∃ x, x = a + q := ⟨_, rfl⟩
      obtain ⟨y, hy⟩ : ∃ y, y = b + q := ⟨_, rfl⟩
      have HXY : Hid (x = a + q ∧ y = b + q) := ⟨hx, hy⟩
      rw [← hx] at wa wa'
      rw [← hy] at wb wb'
      have hxs : x < d.size := by omega
      have hys : y < d.size := by omega
      clear hx hy
      have ea44 : ((x : Int)).toNat = x := by omega
      have pa44 : (0 : Int) ≤ (x : Int) := by omega
      have ba44 : (x : Int) < (d.size : Int) := by omega
      have ec44 : ((y : Int)).toNat = y := by omega
      have pc44 : (0 : Int) ≤ (y : Int) := by omega
      have bc44 : (y : Int) < (d.size : Int) := by omega
      have S2 : Aside (SWK enc k w0 blk off (swp dk x y) ((wr.drew.setCells blk (off + x * k) (enc dk[y]!)).setCells blk (off + y * k) (enc dk[x]!))) := S1.out.swapped R x y (by omega) (by omega)
      have l44a := S1.out.ld1 R (by omega) P x (by omega)
      have l44b := S1.out.ld1 R (by omega) P y (by omega)
      have s44a := S1.out.st1 R (by omega) P x (by omega) dk[y]!
      have s44b := S1.out.st2 R (by omega) P x y (by omega) (by omega) dk[y]! dk[x]!
      have n44a : (enc dk[x]!).length = k := R.hk _
      have n44b : (enc dk[y]!).length = k := R.hk _
      generalize enc dk[x]! = cI44 at S2 l44a s44b n44a
      generalize enc dk[y]! = cJ44 at S2 l44b s44a s44b n44b
      clear S1
      go_big_region_o
      clear l44a l44b s44a s44b
      generalize (wr.drew.setCells blk (off + x * k) cJ44).setCells blk (off + y * k) cI44 = w2 at S2 ⊢
      go_wp2
      go_roundg (n - (q + 1))
      case measure => omega
      case rel => exact ⟨q + 1, swp dk x y, by go_num, by omega, Nat.le_refl _, by rw [Go.Sort.size_swp]; exact hds, S2, by rw [HXY.out.1, HXY.out.2]; exact Lib.hid (HW.out.step (by omega) (by omega))⟩
    · have hltz : ¬ (q : Int) < (n : Int) := by omega
      have hke : q = n := by omega
      subst hke
      go_wp2
      go_end0
      exact ⟨rfl, dk, HW.out, S1.out⟩
set_option maxHeartbeats 4000000 in
set_option maxRecDepth 1000000 in
theorem rotate_o (k : Nat) (L : StL P k) (enc : α → List Value) (g : Nat) (cb : Array Value) (blk off cap a m b : Nat) (d0 d : Array α) (w0 w : World)
    (R : RowK enc k w0 blk off d0) (hs : d0.size = d.size) (S : SWK enc k w0 blk off d w) (ham : a < m) (hmb : m < b) (hb : b ≤ d.size) (hsz : d.size < 4611686018427387904) :
    Calls P 209 #[.slice (some ⟨blk, off, none⟩) d.size cap, .int .i64 a, .int .i64 m, .int .i64 b, .func (.func g) #[] cb] w fun e w' => e = .returned (.tuple #[]) ∧ ∃ dn, Rot a m b d dn ∧ SWK enc k w0 blk off dn w' := by
  have t0 := L.t0; have a0 := L.a0; have z0 := L.z0; have v0 := L.v0; have t3 := L.t3; have a3 := L.a3; have z3 := L.z3; have v3 := L.v3; have t4 := L.t4; have a4 := L.a4; have z4 := L.z4; have v4 := L.v4; have t22 := L.t22; have a22 := L.a22; have z22 := L.z22; have v22 := L.v22; have t25 := L.t25; have a25 := L.a25; have z25 := L.z25; have v25 := L.v25
  have FG := L.g147
  have e148 : ∀ args w, (callFunc 211 args).run P w = .ok (.enter 211 args) w := enters_of L.g148 (by kernel_rfl) rfl
  have HSW : Hid (∀ (a b n : Nat) (dk : Array α) (wr : World), d0.size = dk.size → SWK enc k w0 blk off dk wr → a + n ≤ b → b + n ≤ dk.size → dk.size < 4611686018427387904 →
    Calls P 211 #[.slice (some ⟨blk, off, none⟩) dk.size cap, .int .i64 a, .int .i64 b, .int .i64 n, .func (.func g) #[] cb] wr fun e w' => e = .returned (.tuple #[]) ∧ ∃ dn, Swd a b n dk dn ∧ SWK enc k w0 blk off dn w') :=
    Lib.hid fun a b n dk wr h1 h2 h3 h4 h5 => swapRange_o k L enc g cb blk off cap a b n d0 dk w0 wr R h1 h2 h3 h4 h5
  have S0 : Aside (SWK enc k w0 blk off d w) := S
  clear S L
  have wi : IntKind.i64.wrap ((m : Int) - (a : Int)) = ((m - a : Nat) : Int) := by rw [IntKind.wrap_i64]; omega
  have wi' : (m : Int) - (a : Int) = ((m - a : Nat) : Int) := by omega
  have wj : IntKind.i64.wrap ((b : Int) - (m : Int)) = ((b - m : Nat) : Int) := by rw [IntKind.wrap_i64]; omega
  have wj' : (b : Int) - (m : Int) = ((b - m : Nat) : Int) := by omega
  go_enter FG, Tryz.ntmps209
  go_wp2
  clear wi wi' wj wj'
  go_loopg [10, 11] (b - a) (fun kx s10 s11 wr => ∃ (i j : Nat) (dk : Array α), s10 = .int .i64 i ∧ s11 = .int .i64 j ∧ 0 < i ∧ 0 < j ∧ i + j ≤ kx ∧ dk.size = d.size ∧ Aside (SWK enc k w0 blk off dk wr) ∧ Hid (RotTo a m b d i j dk))
  case atStart => exact ⟨m - a, b - m, d, rfl, rfl, by omega, by omega, by omega, rfl, S0, Lib.hid (RotTo.start d (by omega) (by omega))⟩
  case round =>
    clear S0
    obtain ⟨i, j, dk, rfl, rfl, hi, hj, hkx, hds, S1, HW⟩ := hrel
    have hb3 := HW.out.2.2.1
    have hb4 := HW.out.2.2.2.1
    have hb5 := HW.out.2.2.2.2
    rcases Nat.lt_trichotomy i j with hlt | heq | hgt
    · have q1 : ((i : Int) == (j : Int)) = false := by simp; omega
      have q2 : ¬ (j : Int) < (i : Int) := by omega
      have q3 : ((i : Int) != (j : Int)) = true := by simp; omega
      obtain ⟨p1, hp1⟩ : ∃ x, x = m - i := ⟨_, rfl⟩
      obtain ⟨p2, hp2⟩ : ∃ x, x = m + j := ⟨_, rfl⟩
      obtain ⟨p3, hp3⟩ : ∃ x, x = m + j - i := ⟨_, rfl⟩
      obtain ⟨p4, hp4⟩ : ∃ x, x = j - i := ⟨_, rfl⟩
      have u1 : IntKind.i64.wrap ((m : Int) - (i : Int)) = (p1 : Int) := by rw [IntKind.wrap_i64]; omega
      have u1' : (m : Int) - (i : Int) = (p1 : Int) := by omega
      have u2' : (m : Int) + (j : Int) = (p2 : Int) := by omega
      have u3' : (p2 : Int) - (i : Int) = (p3 : Int) := by omega
      have u4 : IntKind.i64.wrap ((j : Int) - (i : Int)) = (p4 : Int) := by rw [IntKind.wrap_i64]; omega
      have u4' : (j : Int) - (i : Int) = (p4 : Int) := by omega
      have hc := HSW.out (m - i) (m + j - i) i dk wr (by omega) S1.out (by omega) (by omega) (by omega)
      have HN := Lib.hid (fun dn h => HW.out.left hb hlt (dn := dn) h)
      rw [hds, ← hp1, ← hp3] at hc
      rw [← hp1, ← hp3, ← hp4] at HN
      have HC := Lib.hid hc
      have hp4' : 0 < p4 := by omega
      have hpm : p4 < j := by omega
      have b2 : (p2 : Int) < 4611686018427387904 := by omega
      have b3 : (p3 : Int) < 4611686018427387904 := by omega
      clear hb3 hb4 hb5 hc hp1 hp2 hp3 hp4 S1 hds HW
      go_wp2_with (go_at_fn 211; refine HC.out.mono ?_; rintro e w2 ⟨rfl, dn, hsw, hsk⟩)
      have HR := Lib.hid (HN.out dn hsw)
      have hdn := HR.out.1.1
      have S2 : Aside (SWK enc k w0 blk off dn w2) := hsk
      clear hsw hsk HC HN u1 u1' u2' u3'
      go_wp2
      clear u4 u4'
      go_roundg (i + p4)
      case measure => omega
      case rel => exact ⟨i, p4, dn, rfl, rfl, hi, hp4', Nat.le_refl _, hdn, S2, HR⟩
    · subst heq
      have q1 : ((i : Int) == (i : Int)) = true := by simp
      have q3 : ((i : Int) != (i : Int)) = false := by simp
      obtain ⟨p1, hp1⟩ : ∃ x, x = m - i := ⟨_, rfl⟩
      have u1 : IntKind.i64.wrap ((m : Int) - (i : Int)) = (p1 : Int) := by rw [IntKind.wrap_i64]; omega
      have u1' : (m : Int) - (i : Int) = (p1 : Int) := by omega
      have hc := HSW.out (m - i) m i dk wr (by omega) S1.out (by omega) (by omega) (by omega)
      have HN := Lib.hid (fun dn h => HW.out.done hb (dn := dn) h)
      rw [hds, ← hp1] at hc
      rw [← hp1] at HN
      have HC := Lib.hid hc
      clear hb3 hb4 hb5 hc hp1 S1 hds HW
      go_wp2_with (go_at_fn 211; refine HC.out.mono ?_; rintro e w2 ⟨rfl, dn, hsw, hsk⟩)
      go_end0
      exact ⟨rfl, dn, HN.out dn hsw, hsk⟩
    · have q1 : ((i : Int) == (j : Int)) = false := by simp; omega
      have q2 : (j : Int) < (i : Int) := by omega
      have q3 : ((i : Int) != (j : Int)) = true := by simp; omega
      obtain ⟨p1, hp1⟩ : ∃ x, x = m - i := ⟨_, rfl⟩
      obtain ⟨p4, hp4⟩ : ∃ x, x = i - j := ⟨_, rfl⟩
      have u1 : IntKind.i64.wrap ((m : Int) - (i : Int)) = (p1 : Int) := by rw [IntKind.wrap_i64]; omega
      have u1' : (m : Int) - (i : Int) = (p1 : Int) := by omega
      have u4 : IntKind.i64.wrap ((i : Int) - (j : Int)) = (p4 : Int) := by rw [IntKind.wrap_i64]; omega
      have u4' : (i : Int) - (j : Int) = (p4 : Int) := by omega
      have hc := HSW.out (m - i) m j dk wr (by omega) S1.out (by omega) (by omega) (by omega)
      have HN := Lib.hid (fun dn h => HW.out.right hb hgt (dn := dn) h)
      rw [hds, ← hp1] at hc
      rw [← hp1, ← hp4] at HN
      have HC := Lib.hid hc
      have hp4' : 0 < p4 := by omega
      have hpm : p4 < i := by omega
      clear hb3 hb4 hb5 hc hp1 hp4 S1 hds HW
      go_wp2_with (go_at_fn 211; refine HC.out.mono ?_; rintro e w2 ⟨rfl, dn, hsw, hsk⟩)
      have HR := Lib.hid (HN.out dn hsw)
      have hdn := HR.out.1.1
      have S2 : Aside (SWK enc k w0 blk off dn w2) := hsk
      clear hsw hsk HC HN u1 u1' u4 u4'
      go_wp2
      go_roundg (p4 + j)
      case measure => omega
      case rel => exact ⟨p4, j, dn, rfl, rfl, hp4', hj, Nat.le_refl _, hdn, S2, HR⟩
end
end Go.Proofs.YtngbjdaaogbjmaaGreat

/-
  Walks over a program that is a variable: symMerge of slices.SortStableFunc at the rows of topdown.
-/
namespace Go.Proofs.YtngbjdaaogbjmaaGreat
open Go.Shelf Go.RowKit Go.Lib Go.Sort
section
variable {P : Program} {α : Type} [Inhabited α]
set_option maxHeartbeats 8000000 in
set_option maxRecDepth 1000000 in
theorem symLeft_o (k : Nat) (L : StL P k) (enc : α → List Value) (cf : α → α → Int) (hO : SWO (ltOf cf)) (g : Nat) (cb : Array Value) (eg : ∀ args w, (callFunc g args).run P w = .ok (.enter g args) w) (blk off cap a m b : Nat) (d0 d : Array α) (w0 w : World)
    (hcmp : CmpLays P g cb enc k cf blk off d0.size w0) (R : RowK enc k w0 blk off d0) (hs : d0.size = d.size) (S : SWK enc k w0 blk off d w) (ham : a + 1 = m) (hmb : m < b) (hb : b ≤ d.size) (hsz : d.size < 1152921504606846976) (hr : SortedIn (ltOf cf) m b d) :
    Calls P 206 #[.slice (some ⟨blk, off, none⟩) d.size cap, .int .i64 a, .int .i64 m, .int .i64 b, .func (.func g) #[] cb] w fun e w' => e = .returned (.tuple #[]) ∧ ∃ dn, Mrg (ltOf cf) a b d dn ∧ SWK enc k w0 blk off dn w' := by
  have mixed := L.mixed; have t0 := L.t0; have a0 := L.a0; have z0 := L.z0; have v0 := L.v0; have t3 := L.t3; have a3 := L.a3; have z3 := L.z3; have v3 := L.v3; have t4 := L.t4; have a4 := L.a4; have z4 := L.z4; have v4 := L.v4; have tu := L.tu; have au := L.au; have zu := L.zu; have vu := L.vu; have t22 := L.t22; have a22 := L.a22; have z22 := L.z22; have v22 := L.v22; have t25 := L.t25; have a25 := L.a25; have z25 := L.z25; have v25 := L.v25; have aE := L.aE; have zE := L.zE
  have FG := L.g145
  have HC : Aside _ := hcmp
  have S0 : Aside (SWK enc k w0 blk off d w) := S
  have HR : Hid (SortedIn (ltOf cf) m b d) := hr
  have HO : Hid (SWO (ltOf cf)) := Lib.hid hO
  have q1 : (m : Int) - (a : Int) = 1 := by omega
  clear S L hcmp hr hO
  go_enter FG, Tryz.ntmps206
  go_wp2
  clear q1
  go_loopg [10, 11] (b - m) (fun kx s10 s11 wr => ∃ (i j : Nat), s10 = .int .i64 i ∧ s11 = .int .i64 j ∧ m ≤ i ∧ i ≤ j ∧ j ≤ b ∧ j - i ≤ kx ∧ Aside (SWK enc k w0 blk off d wr) ∧ Hid ((∀ x, m ≤ x → x < i → ltOf cf d[x]! d[a]! = true) ∧ (∀ x, j ≤ x → x < b → ltOf cf d[x]! d[a]! = false)))
  case atStart => exact ⟨m, b, rfl, rfl, by omega, by omega, by omega, by omega, S0, Lib.hid ⟨fun x _ _ => by omega, fun x _ _ => by omega⟩⟩
  case round =>
    clear S0
    obtain ⟨i, j, rfl, rfl, hmi, hij, hjb, hkx, S1, HX⟩ := hrel
    by_cases hlt : i < j
    · have hltz : (i : Int) < (j : Int) := by omega
      obtain ⟨h, hh⟩ : ∃ h, h = (i + j) / 2 := ⟨_, rfl⟩
      have hb1 : (i : Int) + (j : Int) < 4611686018427387904 := by omega
      have hb0 : 0 ≤ (i : Int) + (j : Int) := by omega
      have hhe : ((i : Int) + (j : Int)) / 2 = (h : Int) := by omega
      have hih : i ≤ h := by omega
      have hhj : h < j := by omega
      clear hh
      have hxs : h < d.size := by omega
      have hys : a < d.size := by omega
      cases hlv : ltOf cf d[h]! d[a]! with
      | true =>
        have HN : Hid (∀ x, m ≤ x → x < h + 1 → ltOf cf d[x]! d[a]! = true) := Lib.hid fun x h1 h2 => by
          by_cases e : x = h
          · subst e; exact hlv
          · have h3 : ltOf cf d[h]! d[x]! = false := HR.out x h h1 (by omega) (by omega)
            cases h4 : ltOf cf d[x]! d[a]! with
            | true => rfl
            | false => exact absurd (HO.out.ntrans _ _ _ h3 h4) (by rw [hlv]; simp)
        have ea : ((h : Nat) : Int).toNat = h := by omega
        have pa : (0 : Int) ≤ (h : Int) := by omega
        have ba : (h : Int) < (d.size : Int) := by omega
        have ec : ((a : Nat) : Int).toNat = a := by omega
        have pc : (0 : Int) ≤ (a : Int) := by omega
        have bc : (a : Int) < (d.size : Int) := by omega
        obtain ⟨vx, hvx⟩ : ∃ z, z = d[h]! := ⟨_, rfl⟩
        obtain ⟨vy, hvy⟩ : ∃ z, z = d[a]! := ⟨_, rfl⟩
        have la := S1.out.ld R (by omega) P h (by omega)
        have lb := S1.out.ld R (by omega) P a (by omega)
        rw [← hvx] at la
        rw [← hvy] at lb
        have hcm := S1.out.cmp HC.out (by omega) vx vy
        have hv : cf vx vy < 0 := by rw [hvx, hvy]; exact of_decide_eq_true hlv
        have hd : decide (cf vx vy < 0) = true := decide_eq_true hv
        clear hvx hvy
        go_wp2_with fail
        go_quiet_grown (first | (go_at_fn g; refine Calls.grown_of (hcm _ _)))
        have S2 : Aside (SWK enc k w0 blk off d (grow (wr.drewN nq) osq)) := S1.out.grown nq osq
        clear la lb hcm S1
        generalize grow (wr.drewN nq) osq = w2 at S2 ⊢
        clear nq osq
        go_wp2
        go_roundg (j - (h + 1))
        case measure => omega
        case rel => exact ⟨h + 1, j, by go_num, rfl, by omega, by omega, hjb, Nat.le_refl _, S2, Lib.hid ⟨HN.out, HX.out.2⟩⟩
      | false =>
        have HN : Hid (∀ x, h ≤ x → x < b → ltOf cf d[x]! d[a]! = false) := Lib.hid fun x h1 h2 => by
          by_cases e : x = h
          · subst e; exact hlv
          · have h3 : ltOf cf d[x]! d[h]! = false := HR.out h x (by omega) (by omega) h2
            exact HO.out.ntrans _ _ _ h3 hlv
        have ea : ((h : Nat) : Int).toNat = h := by omega
        have pa : (0 : Int) ≤ (h : Int) := by omega
        have ba : (h : Int) < (d.size : Int) := by omega
        have ec : ((a : Nat) : Int).toNat = a := by omega
        have pc : (0 : Int) ≤ (a : Int) := by omega
        have bc : (a : Int) < (d.size : Int) := by omega
        obtain ⟨vx, hvx⟩ : ∃ z, z = d[h]! := ⟨_, rfl⟩
        obtain ⟨vy, hvy⟩ : ∃ z, z = d[a]! := ⟨_, rfl⟩
        have la := S1.out.ld R (by omega) P h (by omega)
        have lb := S1.out.ld R (by omega) P a (by omega)
        rw [← hvx] at la
        rw [← hvy] at lb
        have hcm := S1.out.cmp HC.out (by omega) vx vy
        have hv : ¬ cf vx vy < 0 := by rw [hvx, hvy]; exact of_decide_eq_false hlv
        have hd : decide (cf vx vy < 0) = false := decide_eq_false hv
        clear hvx hvy
        go_wp2_with fail
        go_quiet_grown (first | (go_at_fn g; refine Calls.grown_of (hcm _ _)))
        have S2 : Aside (SWK enc k w0 blk off d (grow (wr.drewN nq) osq)) := S1.out.grown nq osq
        clear la lb hcm S1
        generalize grow (wr.drewN nq) osq = w2 at S2 ⊢
        clear nq osq
        go_wp2
        go_roundg (h - i)
        case measure => omega
        case rel => exact ⟨i, h, rfl, rfl, hmi, by omega, by omega, Nat.le_refl _, S2, Lib.hid ⟨HX.out.1, HN.out⟩⟩
    · have hltz : ¬ (i : Int) < (j : Int) := by omega
      have hje : j = i := by omega
      subst hje
      go_wp2
      go_loopg [13] (j - a) (fun kx s13 wr => ∃ (q : Nat) (dk : Array α), s13 = .int .i64 q ∧ a ≤ q ∧ q < j ∧ j - q ≤ kx ∧ dk.size = d.size ∧ Aside (SWK enc k w0 blk off dk wr) ∧ Hid (Rot a (a + 1) (q + 1) d dk))
      case atStart => exact ⟨a, d, rfl, by omega, by omega, by omega, rfl, S1, Lib.hid (Rot.one a d)⟩
      case round =>
        clear S1
        obtain ⟨q, dk, rfl, haq, hqj, hkq, hds, S1, HW⟩ := hrel
        have hj1 : 1 ≤ (j : Int) := by omega
        by_cases hqs : q + 1 < j
        · have hqz : (q : Int) < (j : Int) - 1 := by omega
          have hqz' : (q : Int) + 1 < (j : Int) := by omega
          go_wp2_with fail
          obtain ⟨y, hy⟩ : ∃ y, y = q + 1 := ⟨_, rfl⟩
          have HY := Lib.hid hy
          have wy : (q : Int) + 1 = (y : Int) := by omega
          have hxs : q < d.size := by omega
          have hys : y < d.size := by omega
          have ea : ((q : Int)).toNat = q := by omega
          have pa : (0 : Int) ≤ (q : Int) := by omega
          have ba : (q : Int) < (d.size : Int) := by omega
          have ec : ((y : Int)).toNat = y := by omega
          have pc : (0 : Int) ≤ (y : Int) := by omega
          have bc : (y : Int) < (d.size : Int) := by omega
          have wy2 : IntKind.i64.wrap ((q : Int) + 1) = (y : Int) := by rw [IntKind.wrap_i64]; omega
          have S2 : Aside (SWK enc k w0 blk off (swp dk q y) ((wr.drew.setCells blk (off + q * k) (enc dk[y]!)).setCells blk (off + y * k) (enc dk[q]!))) := S1.out.swapped R q y (by omega) (by omega)
          have l44a := S1.out.ld1 R (by omega) P q (by omega)
          have l44b := S1.out.ld1 R (by omega) P y (by omega)
          have s44a := S1.out.st1 R (by omega) P q (by omega) dk[y]!
          have s44b := S1.out.st2 R (by omega) P q y (by omega) (by omega) dk[y]! dk[q]!
          have n44a : (enc dk[q]!).length = k := R.hk _
          have n44b : (enc dk[y]!).length = k := R.hk _
          generalize enc dk[q]! = cI44 at S2 l44a s44b n44a
          generalize enc dk[y]! = cJ44 at S2 l44b s44a s44b n44b
          clear S1 hy
          go_big_region_o
          clear l44a l44b s44a s44b
          generalize (wr.drew.setCells blk (off + q * k) cJ44).setCells blk (off + y * k) cI44 = w2 at S2 ⊢
          clear wy wy2
          go_wp2
          go_roundg (j - (q + 1))
          case measure => omega
          case rel => exact ⟨q + 1, swp dk q y, by go_num, by omega, by omega, Nat.le_refl _, by rw [Go.Sort.size_swp]; exact hds, S2, by rw [HY.out]; exact Lib.hid (HW.out.up haq (by omega))⟩
        · have hqz : ¬ (q : Int) < (j : Int) - 1 := by omega
          have hqz' : ¬ (q : Int) + 1 < (j : Int) := by omega
          have hqe : q + 1 = j := by omega
          have hm : Mrg (ltOf cf) a b d dk := mrg_left HO.out (i := q + 1) HW.out (by omega) (by omega) hb (by rw [ham]; exact HR.out) (fun x h1 h2 => HX.out.1 x (by omega) (by omega)) (fun x h1 h2 => HX.out.2 x (by omega) h2)
          have HM := Lib.hid hm
          clear hm
          go_wp2
          (try simp only [Exit.inBlock, Exit.then]); refine bodyPost_ret (results_none rfl _ _ _) rfl ?_
          exact ⟨rfl, dk, HM.out, S1.out⟩
end
end Go.Proofs.YtngbjdaaogbjmaaGreat

/-
  Walks over a program that is a variable: symMerge of slices.SortStableFunc at the rows of topdown.
-/
namespace Go.Proofs.YtngbjdaaogbjmaaGreat
open Go.Shelf Go.RowKit Go.Lib Go.Sort
section
variable {P : Program} {α : Type} [Inhabited α]
set_option maxHeartbeats 8000000 in
set_option maxRecDepth 1000000 in
theorem symRight_o (k : Nat) (L : StL P k) (enc : α → List Value) (cf : α → α → Int) (hO : SWO (ltOf cf)) (g : Nat) (cb : Array Value) (eg : ∀ args w, (callFunc g args).run P w = .ok (.enter g args) w) (blk off cap a m b : Nat) (d0 d : Array α) (w0 w : World)
    (hcmp : CmpLays P g cb enc k cf blk off d0.size w0) (R : RowK enc k w0 blk off d0) (hs : d0.size = d.size) (S : SWK enc k w0 blk off d w) (ham : a < m) (hne : a + 1 ≠ m) (hmb : m + 1 = b) (hb : b ≤ d.size) (hsz : d.size < 1152921504606846976) (hl : SortedIn (ltOf cf) a m d) :
    Calls P 206 #[.slice (some ⟨blk, off, none⟩) d.size cap, .int .i64 a, .int .i64 m, .int .i64 b, .func (.func g) #[] cb] w fun e w' => e = .returned (.tuple #[]) ∧ ∃ dn, Mrg (ltOf cf) a b d dn ∧ SWK enc k w0 blk off dn w' := by
  have mixed := L.mixed; have t0 := L.t0; have a0 := L.a0; have z0 := L.z0; have v0 := L.v0; have t3 := L.t3; have a3 := L.a3; have z3 := L.z3; have v3 := L.v3; have t4 := L.t4; have a4 := L.a4; have z4 := L.z4; have v4 := L.v4; have tu := L.tu; have au := L.au; have zu := L.zu; have vu := L.vu; have t22 := L.t22; have a22 := L.a22; have z22 := L.z22; have v22 := L.v22; have t25 := L.t25; have a25 := L.a25; have z25 := L.z25; have v25 := L.v25; have aE := L.aE; have zE := L.zE
  have FG := L.g145
  have HC : Aside _ := hcmp
  have S0 : Aside (SWK enc k w0 blk off d w) := S
  have HL : Hid (SortedIn (ltOf cf) a m d) := hl
  have HO : Hid (SWO (ltOf cf)) := Lib.hid hO
  obtain ⟨ma, hma⟩ : ∃ x, x = m - a := ⟨_, rfl⟩
  have q1 : (m : Int) - (a : Int) = (ma : Int) := by omega
  have q1' : ((ma : Int) == 1) = false := by simp; omega
  have q2 : (b : Int) - (m : Int) = 1 := by omega
  have hmas : (ma : Int) < 1152921504606846976 := by omega
  clear S L hcmp hl hO hma
  go_enter FG, Tryz.ntmps206
  go_wp2
  clear q1 q1' q2
  go_loopg [14, 15] (m - a) (fun kx s10 s11 wr => ∃ (i j : Nat), s10 = .int .i64 i ∧ s11 = .int .i64 j ∧ a ≤ i ∧ i ≤ j ∧ j ≤ m ∧ j - i ≤ kx ∧ Aside (SWK enc k w0 blk off d wr) ∧ Hid ((∀ x, a ≤ x → x < i → ltOf cf d[m]! d[x]! = false) ∧ (∀ x, j ≤ x → x < m → ltOf cf d[m]! d[x]! = true)))
  case atStart => exact ⟨a, m, rfl, rfl, by omega, by omega, by omega, by omega, S0, Lib.hid ⟨fun x _ _ => by omega, fun x _ _ => by omega⟩⟩
  case round =>
    clear S0
    obtain ⟨i, j, rfl, rfl, hmi, hij, hjb, hkx, S1, HX⟩ := hrel
    by_cases hlt : i < j
    · have hltz : (i : Int) < (j : Int) := by omega
      obtain ⟨h, hh⟩ : ∃ h, h = (i + j) / 2 := ⟨_, rfl⟩
      have hb1 : (i : Int) + (j : Int) < 4611686018427387904 := by omega
      have hb0 : 0 ≤ (i : Int) + (j : Int) := by omega
      have hhe : ((i : Int) + (j : Int)) / 2 = (h : Int) := by omega
      have hih : i ≤ h := by omega
      have hhj : h < j := by omega
      clear hh
      have hxs : m < d.size := by omega
      have hys : h < d.size := by omega
      cases hlv : ltOf cf d[m]! d[h]! with
      | true =>
        have HN : Hid (∀ x, h ≤ x → x < m → ltOf cf d[m]! d[x]! = true) := Lib.hid fun x h1 h2 => by
          by_cases e : x = h
          · subst e; exact hlv
          · have h3 : ltOf cf d[x]! d[h]! = false := HL.out h x (by omega) (by omega) h2
            cases h4 : ltOf cf d[m]! d[x]! with
            | true => rfl
            | false => exact absurd (HO.out.ntrans _ _ _ h4 h3) (by rw [hlv]; simp)
        have ea : ((m : Nat) : Int).toNat = m := by omega
        have pa : (0 : Int) ≤ (m : Int) := by omega
        have ba : (m : Int) < (d.size : Int) := by omega
        have ec : ((h : Nat) : Int).toNat = h := by omega
        have pc : (0 : Int) ≤ (h : Int) := by omega
        have bc : (h : Int) < (d.size : Int) := by omega
        obtain ⟨vx, hvx⟩ : ∃ z, z = d[m]! := ⟨_, rfl⟩
        obtain ⟨vy, hvy⟩ : ∃ z, z = d[h]! := ⟨_, rfl⟩
        have la := S1.out.ld R (by omega) P m (by omega)
        have lb := S1.out.ld R (by omega) P h (by omega)
        rw [← hvx] at la
        rw [← hvy] at lb
        have hcm := S1.out.cmp HC.out (by omega) vx vy
        have hv : cf vx vy < 0 := by rw [hvx, hvy]; exact of_decide_eq_true hlv
        have hd : decide (cf vx vy < 0) = true := decide_eq_true hv
        clear hvx hvy
        go_wp2_with fail
        go_quiet_grown (first | (go_at_fn g; refine Calls.grown_of (hcm _ _)))
        have S2 : Aside (SWK enc k w0 blk off d (grow (wr.drewN nq) osq)) := S1.out.grown nq osq
        clear la lb hcm S1
        generalize grow (wr.drewN nq) osq = w2 at S2 ⊢
        clear nq osq
        go_wp2
        go_roundg (h - i)
        case measure => omega
        case rel => exact ⟨i, h, rfl, rfl, hmi, by omega, by omega, Nat.le_refl _, S2, Lib.hid ⟨HX.out.1, HN.out⟩⟩
      | false =>
        have HN : Hid (∀ x, a ≤ x → x < h + 1 → ltOf cf d[m]! d[x]! = false) := Lib.hid fun x h1 h2 => by
          by_cases e : x = h
          · subst e; exact hlv
          · have h3 : ltOf cf d[h]! d[x]! = false := HL.out x h h1 (by omega) (by omega)
            exact HO.out.ntrans _ _ _ hlv h3
        have ea : ((m : Nat) : Int).toNat = m := by omega
        have pa : (0 : Int) ≤ (m : Int) := by omega
        have ba : (m : Int) < (d.size : Int) := by omega
        have ec : ((h : Nat) : Int).toNat = h := by omega
        have pc : (0 : Int) ≤ (h : Int) := by omega
        have bc : (h : Int) < (d.size : Int) := by omega
        obtain ⟨vx, hvx⟩ : ∃ z, z = d[m]! := ⟨_, rfl⟩
        obtain ⟨vy, hvy⟩ : ∃ z, z = d[h]! := ⟨_, rfl⟩
        have la := S1.out.ld R (by omega) P m (by omega)
        have lb := S1.out.ld R (by omega) P h (by omega)
        rw [← hvx] at la
        rw [← hvy] at lb
        have hcm := S1.out.cmp HC.out (by omega) vx vy
        have hv : ¬ cf vx vy < 0 := by rw [hvx, hvy]; exact of_decide_eq_false hlv
        have hd : decide (cf vx vy < 0) = false := decide_eq_false hv
        clear hvx hvy
        go_wp2_with fail
        go_quiet_grown (first | (go_at_fn g; refine Calls.grown_of (hcm _ _)))
        have S2 : Aside (SWK enc k w0 blk off d (grow (wr.drewN nq) osq)) := S1.out.grown nq osq
        clear la lb hcm S1
        generalize grow (wr.drewN nq) osq = w2 at S2 ⊢
        clear nq osq
        go_wp2
        go_roundg (j - (h + 1))
        case measure => omega
        case rel => exact ⟨h + 1, j, by go_num, rfl, by omega, by omega, hjb, Nat.le_refl _, S2, Lib.hid ⟨HN.out, HX.out.2⟩⟩
    · have hltz : ¬ (i : Int) < (j : Int) := by omega
      have hje : j = i := by omega
      subst hje
      go_wp2
      go_loopg [17] (m - j) (fun kx s13 wr => ∃ (q : Nat) (dk : Array α), s13 = .int .i64 q ∧ j ≤ q ∧ q ≤ m ∧ q - j ≤ kx ∧ dk.size = d.size ∧ Aside (SWK enc k w0 blk off dk wr) ∧ Hid (Rot q m (m + 1) d dk))
      case atStart => exact ⟨m, d, rfl, by omega, by omega, by omega, rfl, S1, Lib.hid (Rot.none m (m + 1) d)⟩
      case round =>
        clear S1
        obtain ⟨q, dk, rfl, haq, hqj, hkq, hds, S1, HW⟩ := hrel
        by_cases hqs : j < q
        · have hqz : (j : Int) < (q : Int) := by omega
          obtain ⟨y, hy⟩ : ∃ y, y = q - 1 := ⟨_, rfl⟩
          go_wp2_with fail
          have HY : Hid (q = y + 1) := Lib.hid (by omega)
          have wy : (q : Int) - 1 = (y : Int) := by omega
          have hxs : q < d.size := by omega
          have hys : y < d.size := by omega
          have hyj : j ≤ y := by omega
          have hyq : y < q := by omega
          have ea : ((q : Int)).toNat = q := by omega
          have pa : (0 : Int) ≤ (q : Int) := by omega
          have ba : (q : Int) < (d.size : Int) := by omega
          have ec : ((y : Int)).toNat = y := by omega
          have pc : (0 : Int) ≤ (y : Int) := by omega
          have bc : (y : Int) < (d.size : Int) := by omega
          have wy2 : IntKind.i64.wrap ((q : Int) - 1) = (y : Int) := by rw [IntKind.wrap_i64]; omega
          have S2 : Aside (SWK enc k w0 blk off (swp dk q y) ((wr.drew.setCells blk (off + q * k) (enc dk[y]!)).setCells blk (off + y * k) (enc dk[q]!))) := S1.out.swapped R q y (by omega) (by omega)
          have l44a := S1.out.ld1 R (by omega) P q (by omega)
          have l44b := S1.out.ld1 R (by omega) P y (by omega)
          have s44a := S1.out.st1 R (by omega) P q (by omega) dk[y]!
          have s44b := S1.out.st2 R (by omega) P q y (by omega) (by omega) dk[y]! dk[q]!
          have n44a : (enc dk[q]!).length = k := R.hk _
          have n44b : (enc dk[y]!).length = k := R.hk _
          generalize enc dk[q]! = cI44 at S2 l44a s44b n44a
          generalize enc dk[y]! = cJ44 at S2 l44b s44a s44b n44b
          clear S1 hy
          go_big_region_o
          clear l44a l44b s44a s44b
          generalize (wr.drew.setCells blk (off + q * k) cJ44).setCells blk (off + y * k) cI44 = w2 at S2 ⊢
          clear wy2
          go_wp2
          go_roundg (y - j)
          case measure => omega
          case rel => exact ⟨y, swp dk q y, rfl, by omega, by omega, Nat.le_refl _, by rw [Go.Sort.size_swp]; exact hds, S2, by have h := HW.out; rw [HY.out] at h ⊢; exact Lib.hid (h.down (by omega) (by omega))⟩
        · have hqz : ¬ (j : Int) < (q : Int) := by omega
          have hqe : q = j := by omega
          have hm : Mrg (ltOf cf) a (m + 1) d dk := mrg_right HO.out (i := q) HW.out (by omega) (by omega) (by omega) HL.out (fun x h1 h2 => HX.out.1 x (by omega) (by omega)) (fun x h1 h2 => HX.out.2 x (by omega) h2)
          rw [hmb] at hm
          have HM := Lib.hid hm
          clear hm
          go_wp2
          (try simp only [Exit.inBlock, Exit.then]); refine bodyPost_ret (results_none rfl _ _ _) rfl ?_
          exact ⟨rfl, dk, HM.out, S1.out⟩
end
end Go.Proofs.YtngbjdaaogbjmaaGreat

/-
  Walks over a program that is a variable: symMerge of slices.SortStableFunc at the rows of topdown, whole.
-/
namespace Go.Proofs.YtngbjdaaogbjmaaGreat
open Go.Shelf Go.RowKit Go.Lib Go.Sort
section
variable {P : Program} {α : Type} [Inhabited α]
theorem Rot.right (a b : Nat) (d : Array α) : Rot a b b d d := ⟨permIn_refl _ _ _, fun x => (rot_right a b (atA d) x).symm⟩
theorem Mrg.triv {lt : α → α → Bool} {a b : Nat} {d : Array α} (h : SortedIn lt a b d) : Mrg lt a b d d := ⟨permIn_refl _ _ _, h⟩
/-- The search of symMerge: what is known in the range that is still open. -/
structure Srch (lt : α → α → Bool) (p s0 r0 s r : Nat) (d : Array α) : Prop where
  a : s0 ≤ s
  b : s ≤ r
  c : r ≤ r0
  lo : ∀ x, s0 ≤ x → x < s → lt d[p - x]! d[x]! = false
  hi : ∀ x, r ≤ x → x < r0 → lt d[p - x]! d[x]! = true
/-- The bounds of the range. -/
def Ends (a m b mid s0 r0 : Nat) : Prop := (mid < m ∧ s0 = mid + m - b ∧ r0 = mid) ∨ (m ≤ mid ∧ s0 = a ∧ r0 = m)
theorem Srch.up {lt : α → α → Bool} (hO : SWO lt) {a m b mid s0 r0 s r c : Nat} {d : Array α} (h : Srch lt (mid + m - 1) s0 r0 s r d) (he : Ends a m b mid s0 r0) (_ham : a < m) (hmb : m < b) (hmid : mid = (a + b) / 2) (hl : SortedIn lt a m d) (hr : SortedIn lt m b d) (h1 : s ≤ c) (h2 : c < r) (hv : lt d[mid + m - 1 - c]! d[c]! = false) : Srch lt (mid + m - 1) s0 r0 (c + 1) r d := by
  have ha := h.a; have hb := h.b; have hc := h.c
  refine ⟨by omega, by omega, hc, fun x hx1 hx2 => ?_, h.hi⟩
  have e1 : a ≤ x := by rcases he with he | he <;> omega
  have e2 : c < m := by rcases he with he | he <;> omega
  have e3 : m ≤ mid + m - 1 - c := by rcases he with he | he <;> omega
  have e4 : mid + m - 1 - x < b := by rcases he with he | he <;> omega
  exact le_trans' hO (le_trans' hO (sorted_le hO hl e1 (show x ≤ c by omega) e2) hv) (sorted_le hO hr e3 (show mid + m - 1 - c ≤ mid + m - 1 - x by omega) e4)
theorem Srch.down {lt : α → α → Bool} (hO : SWO lt) {a m b mid s0 r0 s r c : Nat} {d : Array α} (h : Srch lt (mid + m - 1) s0 r0 s r d) (he : Ends a m b mid s0 r0) (_ham : a < m) (hmb : m < b) (hmid : mid = (a + b) / 2) (hl : SortedIn lt a m d) (hr : SortedIn lt m b d) (h1 : s ≤ c) (h2 : c < r) (hv : lt d[mid + m - 1 - c]! d[c]! = true) : Srch lt (mid + m - 1) s0 r0 s c d := by
  have ha := h.a; have hb := h.b; have hc := h.c
  refine ⟨ha, h1, by omega, h.lo, fun x hx1 hx2 => ?_⟩
  have e1 : a ≤ c := by rcases he with he | he <;> omega
  have e2 : x < m := by rcases he with he | he <;> omega
  have e3 : m ≤ mid + m - 1 - x := by rcases he with he | he <;> omega
  have e4 : mid + m - 1 - c < b := by rcases he with he | he <;> omega
  cases hx : lt d[mid + m - 1 - x]! d[x]! with
  | true => rfl
  | false =>
    have := le_trans' hO (le_trans' hO (sorted_le hO hl e1 hx1 e2) hx) (sorted_le hO hr e3 (show mid + m - 1 - x ≤ mid + m - 1 - c by omega) e4)
    rw [this] at hv; cases hv
theorem Srch.cut {lt : α → α → Bool} {a m b mid s0 r0 s : Nat} {d : Array α} (h : Srch lt (mid + m - 1) s0 r0 s s d) (he : Ends a m b mid s0 r0) (ham : a < m) (hmb : m < b) (hmid : mid = (a + b) / 2) : Cutd lt a m b mid s d := by
  have ha := h.a; have hc := h.c
  refine ⟨by rcases he with he | he <;> omega, by rcases he with he | he <;> omega, by rcases he with he | he <;> omega, by rcases he with he | he <;> omega, by rcases he with he | he <;> omega, ?_, ?_⟩
  · by_cases e : s = s0
    · rcases he with he | he
      · exact .inl ⟨he.1, by omega⟩
      · exact .inr (.inl ⟨he.1, by omega⟩)
    · have := h.lo (s - 1) (by omega) (by omega)
      rw [show mid + m - 1 - (s - 1) = mid + m - s by rcases he with he | he <;> omega] at this
      exact .inr (.inr ⟨by rcases he with he | he <;> omega, by rcases he with he | he <;> omega, this⟩)
  · by_cases e : s = r0
    · rcases he with he | he
      · exact .inl ⟨he.1, by omega⟩
      · exact .inr (.inl ⟨he.1, by omega⟩)
    · have := h.hi s (Nat.le_refl _) (by omega)
      rw [show mid + m - 1 - s = mid + m - s - 1 by omega] at this
      exact .inr (.inr ⟨by rcases he with he | he <;> omega, by rcases he with he | he <;> omega, this⟩)
/-- The parts behind the turn are sorted. -/
theorem Rot.sorted {lt : α → α → Bool} {a m b mid s : Nat} {d d1 : Array α} (hR : Rot s m (mid + m - s) d d1) (hc : Cutd lt a m b mid s d) (hl : SortedIn lt a m d) (hr : SortedIn lt m b d) :
    SortedIn lt a s d1 ∧ SortedIn lt s mid d1 ∧ SortedIn lt mid (mid + m - s) d1 ∧ SortedIn lt (mid + m - s) b d1 := by
  obtain ⟨c1, c2, c3, c4, c5, _, _⟩ := hc
  refine ⟨fun i j hi hij hj => ?_, fun i j hi hij hj => ?_, fun i j hi hij hj => ?_, fun i j hi hij hj => ?_⟩ <;> rw [hR.2, hR.2] <;> unfold rotF atA
  · rw [if_neg (by omega), if_neg (by omega), if_neg (by omega), if_neg (by omega)]
    exact hl i j hi hij (by omega)
  · rw [if_pos (by omega), if_pos (by omega)]
    exact hr _ _ (by omega) (by omega) (by omega)
  · rw [if_neg (by omega), if_pos (by omega), if_neg (by omega), if_pos (by omega)]
    exact hl _ _ (by omega) (by omega) (by omega)
  · rw [if_neg (by omega), if_neg (by omega), if_neg (by omega), if_neg (by omega)]
    exact hr i j (by omega) hij hj
set_option maxHeartbeats 16000000 in
set_option maxRecDepth 1000000 in
theorem symMerge_o (k : Nat) (L : StL P k) (enc : α → List Value) (cf : α → α → Int) (hO : SWO (ltOf cf)) (g : Nat) (cb : Array Value) (eg : ∀ args w, (callFunc g args).run P w = .ok (.enter g args) w) (blk off cap : Nat) (d0 : Array α) (w0 : World)
    (hcmp : CmpLays P g cb enc k cf blk off d0.size w0) (R : RowK enc k w0 blk off d0) (hsz : d0.size < 1152921504606846976) : ∀ (N a m b : Nat) (d : Array α) (w : World), b - a ≤ N → d0.size = d.size → SWK enc k w0 blk off d w → a < m → m < b → b ≤ d.size → SortedIn (ltOf cf) a m d → SortedIn (ltOf cf) m b d →
    Calls P 206 #[.slice (some ⟨blk, off, none⟩) d0.size cap, .int .i64 a, .int .i64 m, .int .i64 b, .func (.func g) #[] cb] w fun e w' => e = .returned (.tuple #[]) ∧ ∃ dn, Mrg (ltOf cf) a b d dn ∧ SWK enc k w0 blk off dn w' := by
  intro N
  induction N with
  | zero => intro a m b d w h _ _ h1 h2; omega
  | succ N ih =>
    intro a m b d w hN hs S ham hmb hb hl hr
    by_cases c1 : a + 1 = m
    · have := symLeft_o k L enc cf hO g cb eg blk off cap a m b d0 d w0 w hcmp R hs S c1 hmb hb (by omega) hr
      rw [← hs] at this; exact this
    by_cases c2 : m + 1 = b
    · have := symRight_o k L enc cf hO g cb eg blk off cap a m b d0 d w0 w hcmp R hs S ham c1 c2 hb (by omega) hl
      rw [← hs] at this; exact this
    have mixed := L.mixed; have t0 := L.t0; have a0 := L.a0; have z0 := L.z0; have v0 := L.v0; have t3 := L.t3; have a3 := L.a3; have z3 := L.z3; have v3 := L.v3; have t4 := L.t4; have a4 := L.a4; have z4 := L.z4; have v4 := L.v4; have tu := L.tu; have au := L.au; have zu := L.zu; have vu := L.vu; have t22 := L.t22; have a22 := L.a22; have z22 := L.z22; have v22 := L.v22; have t25 := L.t25; have a25 := L.a25; have z25 := L.z25; have v25 := L.v25; have aE := L.aE; have zE := L.zE
    have FG := L.g145
    have e147 : ∀ args w, (callFunc 209 args).run P w = .ok (.enter 209 args) w := enters_of L.g147 (by kernel_rfl) rfl
    have e145 : ∀ args w, (callFunc 206 args).run P w = .ok (.enter 206 args) w := enters_of L.g145 (by kernel_rfl) rfl
    have HROT : Hid (∀ (a m b : Nat) (d : Array α) (w : World), d0.size = d.size → SWK enc k w0 blk off d w → a < m → m < b → b ≤ d.size →
      Calls P 209 #[.slice (some ⟨blk, off, none⟩) d0.size cap, .int .i64 a, .int .i64 m, .int .i64 b, .func (.func g) #[] cb] w fun e w' => e = .returned (.tuple #[]) ∧ ∃ dn, Rot a m b d dn ∧ SWK enc k w0 blk off dn w') :=
      Lib.hid fun a m b d w h1 h2 h3 h4 h5 => by
        have := rotate_o k L enc g cb blk off cap a m b d0 d w0 w R h1 h2 h3 h4 h5 (by omega)
        rw [← h1] at this; exact this
    have IH := Lib.hid ih
    have HC : Aside _ := hcmp
    have S0 : Aside (SWK enc k w0 blk off d w) := S
    have HL : Hid (SortedIn (ltOf cf) a m d) := hl
    have HR : Hid (SortedIn (ltOf cf) m b d) := hr
    have HO : Hid (SWO (ltOf cf)) := Lib.hid hO
    have hs1 : d.size ≤ d0.size := by omega
    have hs2 : d0.size ≤ d.size := by omega
    obtain ⟨mid, hmid⟩ : ∃ x, x = (a + b) / 2 := ⟨_, rfl⟩
    obtain ⟨nn, hnn⟩ : ∃ x, x = mid + m := ⟨_, rfl⟩
    obtain ⟨ma, hma⟩ : ∃ x, x = m - a := ⟨_, rfl⟩
    obtain ⟨bm, hbm⟩ : ∃ x, x = b - m := ⟨_, rfl⟩
    obtain ⟨s0, r0, hends⟩ : ∃ s0 r0, Ends a m b mid s0 r0 := by
      by_cases c : mid < m
      · exact ⟨_, _, .inl ⟨c, rfl, rfl⟩⟩
      · exact ⟨_, _, .inr ⟨by omega, rfl, rfl⟩⟩
    have HE : Hid (Ends a m b mid s0 r0) := hends
    have HMID : Hid (mid = (a + b) / 2) := hmid
    have HNN : Hid (nn = mid + m) := hnn
    have q1 : (m : Int) - (a : Int) = (ma : Int) := by omega
    have q1' : ((ma : Int) == 1) = false := by simp; omega
    have q2 : (b : Int) - (m : Int) = (bm : Int) := by omega
    have q2' : ((bm : Int) == 1) = false := by simp; omega
    have hmas : (ma : Int) < 1152921504606846976 := by omega
    have hbms : (bm : Int) < 1152921504606846976 := by omega
    have q3 : ((a : Int) + (b : Int)) / 2 = (mid : Int) := by omega
    have hab0 : 0 ≤ (a : Int) + (b : Int) := by omega
    have hab9 : (a : Int) + (b : Int) < 4611686018427387904 := by omega
    have q4 : (mid : Int) + (m : Int) = (nn : Int) := by omega
    have hnn9 : (nn : Int) < 4611686018427387904 := by omega
    obtain ⟨nb, hnb⟩ : ∃ x, x = nn - b := ⟨_, rfl⟩
    obtain ⟨p, hp⟩ : ∃ x, x = nn - 1 := ⟨_, rfl⟩
    have q6 : (nn : Int) - 1 = (p : Int) := by omega
    have hp9 : (p : Int) < 4611686018427387904 := by omega
    have HP : Hid (p = mid + m - 1) := by show _ = _; omega
    clear hends
    clear S hcmp hl hr hO hmid hnn hma hbm ih c1 c2 hp HE hs s0 r0
    obtain ⟨b0, hb0⟩ : ∃ x, decide (mid < m) = x := ⟨_, rfl⟩
    go_enter FG, Tryz.ntmps206
    go_upto_if 140 with fail
    have HB0 := Lib.hid hb0
    clear hb0
    go_cut [20, 21] from 141 to 146 (fun v20 v21 wx => ∃ s0 r0 : Nat, v20 = .int .i64 s0 ∧ v21 = .int .i64 r0 ∧ Hid (Ends a m b mid s0 r0) ∧ Aside (SWK enc k w0 blk off d wx))
    case first =>
      cases b0 with
      | true =>
        have c : mid < m := by have := of_decide_eq_true HB0.out; omega
        have q5 : (nn : Int) - (b : Int) = (nb : Int) := by have h1 := HNN.out; have h2 := HMID.out; omega
        have HE : Hid (Ends a m b mid nb mid) := Lib.hid (.inl ⟨c, by have h1 := HNN.out; omega, rfl⟩)
        clear hnb c
        go_wp2_with fail
        go_meet
        exact ⟨nb, mid, rfl, rfl, HE, S0⟩
      | false =>
        have c : ¬ mid < m := by have := of_decide_eq_false HB0.out; omega
        have HE : Hid (Ends a m b mid a m) := Lib.hid (.inr ⟨by omega, rfl, rfl⟩)
        clear hnb c
        go_wp2_with fail
        go_meet
        exact ⟨a, m, rfl, rfl, HE, S0⟩
    case rest => as_aux_lemma =>
      clear S0
      obtain ⟨s0, r0, rfl, rfl, HE, S0⟩ := hcut
      have hr0 : r0 ≤ m ∧ r0 ≤ mid ∧ a ≤ s0 ∧ s0 ≤ r0 ∧ nn - s0 ≤ b ∧ m ≤ nn - r0 := by have h1 := HNN.out; have h2 := HMID.out; rcases HE.out with h | h <;> omega
      obtain ⟨g1, g2, g3, g4, g5, g6⟩ := hr0
      have hS0 : Hid (∃ s0' r0', Ends a m b mid s0' r0' ∧ Srch (ltOf cf) (mid + m - 1) s0' r0' s0 r0 d) := Lib.hid ⟨s0, r0, HE.out, ⟨Nat.le_refl _, g4, Nat.le_refl _, fun x _ _ => by omega, fun x _ _ => by omega⟩⟩
      clear hnb HE
      go_wp2
      go_loopg [20, 21] (r0 - s0) (fun kx s20 s21 wr => ∃ (s r : Nat), s20 = .int .i64 s ∧ s21 = .int .i64 r ∧ a ≤ s ∧ s ≤ r ∧ r ≤ m ∧ r ≤ mid ∧ nn - s ≤ b ∧ m ≤ nn - r ∧ r - s ≤ kx ∧ Aside (SWK enc k w0 blk off d wr) ∧ Hid (∃ s0' r0', Ends a m b mid s0' r0' ∧ Srch (ltOf cf) (mid + m - 1) s0' r0' s r d))
      case atStart => exact ⟨s0, r0, rfl, rfl, g3, g4, g1, g2, g5, g6, Nat.le_refl _, S0, hS0⟩
      case round => as_aux_lemma =>
        clear S0 hS0
        obtain ⟨s, r, rfl, rfl, has, hsr, hrm, hrmid, hsb, hrn, hkx, S1, HX⟩ := hrel
        by_cases hlt : s < r
        · have hltz : (s : Int) < (r : Int) := by omega
          obtain ⟨c, hc⟩ : ∃ c, c = (s + r) / 2 := ⟨_, rfl⟩
          have hb1 : (s : Int) + (r : Int) < 4611686018427387904 := by omega
          have hb0 : 0 ≤ (s : Int) + (r : Int) := by omega
          have hce : ((s : Int) + (r : Int)) / 2 = (c : Int) := by omega
          have hsc : s ≤ c := by omega
          have hcr : c < r := by omega
          obtain ⟨y, hy⟩ : ∃ y, y = mid + m - 1 - c := ⟨_, rfl⟩
          have hyp : (p : Int) - (c : Int) = (y : Int) := by have := HP.out; omega
          have hy9 : (y : Int) < 4611686018427387904 := by omega
          have hyb : y < b := by have := HNN.out; omega
          have hcb : c < d.size := by omega
          have hyd : y < d.size := by omega
          have HYM := Lib.hid hy
          clear hc
          cases hlv : ltOf cf d[y]! d[c]! with
          | true => as_aux_lemma =>
            have HN : Hid (∃ s0' r0', Ends a m b mid s0' r0' ∧ Srch (ltOf cf) (mid + m - 1) s0' r0' s c d) := by
              obtain ⟨x0, x1, h1, h2⟩ := HX.out
              exact Lib.hid ⟨x0, x1, h1, h2.down HO.out h1 ham hmb HMID.out HL.out HR.out hsc hcr (by rw [← hy]; exact hlv)⟩
            have hcn : m ≤ nn - c := by have := HNN.out; omega
            clear hy
            have ea : ((y : Nat) : Int).toNat = y := by omega
            have pa : (0 : Int) ≤ (y : Int) := by omega
            have ba : (y : Int) < (d0.size : Int) := by omega
            have ec : ((c : Nat) : Int).toNat = c := by omega
            have pc : (0 : Int) ≤ (c : Int) := by omega
            have bc : (c : Int) < (d0.size : Int) := by omega
            obtain ⟨vx, hvx⟩ : ∃ z, z = d[y]! := ⟨_, rfl⟩
            obtain ⟨vy, hvy⟩ : ∃ z, z = d[c]! := ⟨_, rfl⟩
            have la := S1.out.ld R (by omega) P y (by omega)
            have lb := S1.out.ld R (by omega) P c (by omega)
            rw [← hvx] at la
            rw [← hvy] at lb
            have hcm := S1.out.cmp HC.out (by omega) vx vy
            have hv : cf vx vy < 0 := by rw [hvx, hvy]; exact of_decide_eq_true hlv
            have hd : decide (cf vx vy < 0) = true := decide_eq_true hv
            clear hvx hvy
            have hyw : IntKind.i64.wrap (y : Int) = (y : Int) := by rw [IntKind.wrap_i64]; omega
            go_wp2_with fail
            go_quiet_grown (first | (go_at_fn g; refine Calls.grown_of (hcm _ _)))
            have S2 : Aside (SWK enc k w0 blk off d (grow (wr.drewN nq) osq)) := S1.out.grown nq osq
            clear la lb hcm S1 hyw
            generalize grow (wr.drewN nq) osq = w2 at S2 ⊢
            clear nq osq
            go_wp2
            go_roundg (c - s)
            case measure => omega
            case rel => exact ⟨s, c, rfl, rfl, has, hsc, by omega, by omega, hsb, hcn, Nat.le_refl _, S2, HN⟩
          | false => as_aux_lemma =>
            have HN : Hid (∃ s0' r0', Ends a m b mid s0' r0' ∧ Srch (ltOf cf) (mid + m - 1) s0' r0' (c + 1) r d) := by
              obtain ⟨x0, x1, h1, h2⟩ := HX.out
              exact Lib.hid ⟨x0, x1, h1, h2.up HO.out h1 ham hmb HMID.out HL.out HR.out hsc hcr (by rw [← hy]; exact hlv)⟩
            clear hy
            have ea : ((y : Nat) : Int).toNat = y := by omega
            have pa : (0 : Int) ≤ (y : Int) := by omega
            have ba : (y : Int) < (d0.size : Int) := by omega
            have ec : ((c : Nat) : Int).toNat = c := by omega
            have pc : (0 : Int) ≤ (c : Int) := by omega
            have bc : (c : Int) < (d0.size : Int) := by omega
            obtain ⟨vx, hvx⟩ : ∃ z, z = d[y]! := ⟨_, rfl⟩
            obtain ⟨vy, hvy⟩ : ∃ z, z = d[c]! := ⟨_, rfl⟩
            have la := S1.out.ld R (by omega) P y (by omega)
            have lb := S1.out.ld R (by omega) P c (by omega)
            rw [← hvx] at la
            rw [← hvy] at lb
            have hcm := S1.out.cmp HC.out (by omega) vx vy
            have hv : ¬ cf vx vy < 0 := by rw [hvx, hvy]; exact of_decide_eq_false hlv
            have hd : decide (cf vx vy < 0) = false := decide_eq_false hv
            clear hvx hvy
            have hyw : IntKind.i64.wrap (y : Int) = (y : Int) := by rw [IntKind.wrap_i64]; omega
            go_wp2_with fail
            go_quiet_grown (first | (go_at_fn g; refine Calls.grown_of (hcm _ _)))
            have S2 : Aside (SWK enc k w0 blk off d (grow (wr.drewN nq) osq)) := S1.out.grown nq osq
            clear la lb hcm S1 hyw
            generalize grow (wr.drewN nq) osq = w2 at S2 ⊢
            clear nq osq
            go_wp2
            go_roundg (r - (c + 1))
            case measure => omega
            case rel => exact ⟨c + 1, r, by go_num, rfl, by omega, by omega, hrm, hrmid, by omega, hrn, Nat.le_refl _, S2, HN⟩
        · have hltz : ¬ (s : Int) < (r : Int) := by omega
          have hre : r = s := by omega
          subst hre
          have hcut : Cutd (ltOf cf) a m b mid r d := by
            obtain ⟨x0, x1, h1, h2⟩ := HX.out
            exact h2.cut h1 ham hmb HMID.out
          have HCUT : Hid (Cutd (ltOf cf) a m b mid r d) := hcut
          obtain ⟨e, he⟩ : ∃ e, e = nn - r := ⟨_, rfl⟩
          have q8 : (nn : Int) - (r : Int) = (e : Int) := by omega
          have he9 : (e : Int) < 4611686018427387904 := by omega
          have HEE : Hid (e = mid + m - r) := by show _ = _; have := HNN.out; omega
          have heb : e ≤ b := by omega
          have hme : m ≤ e := by omega
          have hmide : mid ≤ e := by have := HNN.out; omega
          have hamid : a < mid := by have := HMID.out; omega
          have hmidb : mid < b := by have := HMID.out; omega
          clear hcut he HX hltz
          go_upto_region 39 with fail
          obtain ⟨b1, hb1⟩ : ∃ x : Bool, x = decide (r < m ∧ m < e) := ⟨_, rfl⟩
          have HB1 := Lib.hid hb1
          clear hb1
          go_cut [185] (fun v wx => v = .bool b1 ∧ Aside (SWK enc k w0 blk off d wx))
          case first => as_aux_lemma =>
            by_cases h1 : r < m
            · have h1' : (r : Int) < (m : Int) := by omega
              by_cases h2 : m < e
              · have h2' : (m : Int) < (e : Int) := by omega
                have hb : b1 = true := by rw [HB1.out]; simp [h1, h2]
                subst hb
                go_wp2_with fail
                go_meet
                exact ⟨rfl, S1⟩
              · have h2' : ¬ (m : Int) < (e : Int) := by omega
                have hb : b1 = false := by rw [HB1.out]; simp [h2]
                subst hb
                go_wp2_with fail
                go_meet
                exact ⟨rfl, S1⟩
            · have h1' : ¬ (r : Int) < (m : Int) := by omega
              have hb : b1 = false := by rw [HB1.out]; simp [h1]
              subst hb
              go_wp2_with fail
              go_meet
              exact ⟨rfl, S1⟩
          case rest => as_aux_lemma =>
            clear S1
            obtain ⟨rfl, S1⟩ := hcut
            have hrot : Hid (Rot r m e d d ∨ b1 = true) := by
              rcases Nat.lt_or_ge r m with h1 | h1
              · rcases Nat.lt_or_ge m e with h2 | h2
                · exact Lib.hid (.inr (by rw [HB1.out]; simp [h1, h2]))
                · have : e = m := by omega
                  rw [this]; exact Lib.hid (.inl (Rot.right r m d))
              · have : r = m := by omega
                rw [this]; exact Lib.hid (.inl (Rot.none m e d))
            go_upto_if 185 with fail
            go_cut [] (fun wx => ∃ d1 : Array α, Aside (SWK enc k w0 blk off d1 wx) ∧ Hid (Rot r m e d d1))
            case first => as_aux_lemma =>
              cases b1 with
              | true =>
                have hc1 : r < m ∧ m < e := by have := HB1.out; simpa using this.symm
                have HCR := Lib.hid (HROT.out r m e d wc (by omega) S1.out hc1.1 hc1.2 (by omega))
                clear hc1
                go_wp2_with (go_at_fn 209; refine HCR.out.mono ?_; rintro e' w2 ⟨rfl, d1, hr1, hs1'⟩)
                go_meet
                exact ⟨d1, hs1', Lib.hid hr1⟩
              | false =>
                go_wp2_with fail
                go_meet
                exact ⟨d, S1, Lib.hid (by rcases hrot.out with h | h; exact h; cases h)⟩
            case rest => as_aux_lemma =>
              clear S1 HB1 hrot
              obtain ⟨d1, S1, HRT⟩ := hcut
              have hd1 : d1.size = d.size := HRT.out.1.1
              have hd1a : d1.size ≤ d.size := by omega
              have hd1b : d.size ≤ d1.size := by omega
              have hsorted := HRT.out
              rw [HEE.out] at hsorted
              have hsrt := hsorted.sorted HCUT.out HL.out HR.out
              rw [← HEE.out] at hsrt
              have HSRT := Lib.hid hsrt
              clear hsorted hsrt hd1
              clear b1
              go_upto_region 41 with fail
              obtain ⟨b2, hb2⟩ : ∃ q : Bool, q = decide (a < r ∧ r < mid) := ⟨_, rfl⟩
              have HB := Lib.hid hb2
              clear hb2
              go_cut [199] (fun v wx => v = .bool b2 ∧ Aside (SWK enc k w0 blk off d1 wx))
              case first => as_aux_lemma =>
                by_cases h1 : a < r
                · have h1' : (a : Int) < (r : Int) := by omega
                  by_cases h2 : r < mid
                  · have h2' : (r : Int) < (mid : Int) := by omega
                    have hb : b2 = true := by rw [HB.out]; simp [h1, h2]
                    subst hb
                    go_wp2_with fail
                    go_meet
                    exact ⟨rfl, S1⟩
                  · have h2' : ¬ (r : Int) < (mid : Int) := by omega
                    have hb : b2 = false := by rw [HB.out]; simp [h2]
                    subst hb
                    go_wp2_with fail
                    go_meet
                    exact ⟨rfl, S1⟩
                · have h1' : ¬ (a : Int) < (r : Int) := by omega
                  have hb : b2 = false := by rw [HB.out]; simp [h1]
                  subst hb
                  go_wp2_with fail
                  go_meet
                  exact ⟨rfl, S1⟩
              case rest => as_aux_lemma =>
                clear S1
                obtain ⟨rfl, S1⟩ := hcut
                go_upto_if 199 with fail
                go_cut [] (fun wx => ∃ d2 : Array α, Aside (SWK enc k w0 blk off d2 wx) ∧ Hid (Mrg (ltOf cf) a mid d1 d2))
                case first => as_aux_lemma =>
                  cases b2 with
                  | true =>
                    have hc1 : a < r ∧ r < mid := by have := HB.out; simpa using this.symm
                    have HCR := Lib.hid (IH.out a r mid d1 wc (by omega) (by omega) S1.out hc1.1 hc1.2 (by omega) HSRT.out.1 HSRT.out.2.1)
                    clear hc1
                    go_wp2_with (go_at_fn 206; refine HCR.out.mono ?_; rintro e' w2 ⟨rfl, d2, hr1, hs1'⟩)
                    go_meet
                    exact ⟨d2, hs1', Lib.hid hr1⟩
                  | false =>
                    have HT : Hid (Mrg (ltOf cf) a mid d1 d1) := Lib.hid (Mrg.triv (by
                      have h0 := HB.out
                      have h1 : ¬ (a < r ∧ r < mid) := by simpa using h0.symm
                      rcases Nat.lt_or_ge a r with h2 | h2
                      · have h3 : r = mid := by omega
                        rw [← h3]; exact HSRT.out.1
                      · have h3 : r = a := by omega
                        have h4 := HSRT.out.2.1
                        rw [h3] at h4; exact h4))
                    go_wp2_with fail
                    go_meet
                    exact ⟨_, S1, HT⟩
                case rest => as_aux_lemma =>
                  clear S1 HB
                  obtain ⟨d2, S1, HM_d2⟩ := hcut
                  have hd2 : d2.size = d1.size := HM_d2.out.1.1
                  have hd2a : d2.size ≤ d1.size := by omega
                  have hd2b : d1.size ≤ d2.size := by omega
                  have HS2 : Hid (SortedIn (ltOf cf) mid e d2 ∧ SortedIn (ltOf cf) e b d2) := by
                    have hc := fun i (h1 : mid ≤ i) => HM_d2.out.1.2.1 i (.inr h1)
                    exact Lib.hid ⟨HSRT.out.2.2.1.congr fun i h1 _ => hc i h1, HSRT.out.2.2.2.congr fun i h1 _ => hc i (by omega)⟩
                  clear hd2 b2
                  go_upto_region 43 with fail
                  obtain ⟨b3, hb3⟩ : ∃ q : Bool, q = decide (mid < e ∧ e < b) := ⟨_, rfl⟩
                  have HB := Lib.hid hb3
                  clear hb3
                  go_cut [213] (fun v wx => v = .bool b3 ∧ Aside (SWK enc k w0 blk off d2 wx))
                  case first => as_aux_lemma =>
                    by_cases h1 : mid < e
                    · have h1' : (mid : Int) < (e : Int) := by omega
                      by_cases h2 : e < b
                      · have h2' : (e : Int) < (b : Int) := by omega
                        have hb : b3 = true := by rw [HB.out]; simp [h1, h2]
                        subst hb
                        go_wp2_with fail
                        go_meet
                        exact ⟨rfl, S1⟩
                      · have h2' : ¬ (e : Int) < (b : Int) := by omega
                        have hb : b3 = false := by rw [HB.out]; simp [h2]
                        subst hb
                        go_wp2_with fail
                        go_meet
                        exact ⟨rfl, S1⟩
                    · have h1' : ¬ (mid : Int) < (e : Int) := by omega
                      have hb : b3 = false := by rw [HB.out]; simp [h1]
                      subst hb
                      go_wp2_with fail
                      go_meet
                      exact ⟨rfl, S1⟩
                  case rest => as_aux_lemma =>
                    clear S1
                    obtain ⟨rfl, S1⟩ := hcut
                    have hf : Hid (∀ d3 : Array α, Mrg (ltOf cf) mid b d2 d3 → Mrg (ltOf cf) a b d d3) := Lib.hid fun d3 h3 => mrg_parts HO.out ham hmb HMID.out hb HL.out HR.out HCUT.out (by have h := HRT.out; rw [HEE.out] at h; exact h) HM_d2.out h3
                    cases b3 with
                    | true =>
                      have hc1 : mid < e ∧ e < b := by have := HB.out; simpa using this.symm
                      have HCR := Lib.hid (IH.out mid e b d2 wc (by omega) (by omega) S1.out hc1.1 hc1.2 (by omega) HS2.out.1 HS2.out.2)
                      clear hc1
                      go_wp2_with (go_at_fn 206; refine HCR.out.mono ?_; rintro e' w2 ⟨rfl, d3, hr1, hs1'⟩)
                      go_end0
                      exact ⟨rfl, d3, hf.out d3 hr1, hs1'⟩
                    | false =>
                      have HT : Hid (Mrg (ltOf cf) mid b d2 d2) := Lib.hid (Mrg.triv (by
                        have h0 := HB.out
                        have h1 : ¬ (mid < e ∧ e < b) := by simpa using h0.symm
                        rcases Nat.lt_or_ge mid e with h2 | h2
                        · have h3 : e = b := by omega
                          rw [← h3]; exact HS2.out.1
                        · have h3 : e = mid := by omega
                          have h4 := HS2.out.2
                          rw [h3] at h4; exact h4))
                      go_wp2_with fail
                      go_end0
                      exact ⟨rfl, d2, hf.out d2 HT.out, S1.out⟩

end
end Go.Proofs.YtngbjdaaogbjmaaGreat

/-
  Walks: slices.SortStableFunc at the rows of topdown: the row behind it is a permutation, sorted.
-/
namespace Go.Proofs.YtngbjdaaogbjmaaGreat
open Go.Shelf Go.RowKit Go.Lib Go.Sort

section
variable {α : Type} [Inhabited α] {lt : α → α → Bool}
theorem dvd_step {k x a : Nat} (h1 : k ∣ x) (h2 : k ∣ a) (h : x < a) : x + k ≤ a := by
  obtain ⟨u, rfl⟩ := h1
  obtain ⟨v, rfl⟩ := h2
  have : u < v := Nat.lt_of_mul_lt_mul_left h
  have := Nat.mul_le_mul_left k (show u + 1 ≤ v from this)
  rw [Nat.mul_add, Nat.mul_one] at this
  exact this
/-- Sorted in each block of k below a. -/
def Blks (lt : α → α → Bool) (k a : Nat) (d : Array α) : Prop := ∀ x, k ∣ x → x < a → SortedIn lt x (x + k) d
/-- Sorted in each block of k from a on. -/
def BlkF (lt : α → α → Bool) (k a n : Nat) (d : Array α) : Prop := ∀ x, k ∣ x → a ≤ x → SortedIn lt x (min (x + k) n) d
theorem Blks.step {k a : Nat} {d d' : Array α} (h : Blks lt k a d) (ha : k ∣ a) (hm : Mrg lt a (a + k) d d') : Blks lt k (a + k) d' := by
  intro x hx hxa
  by_cases e : x < a
  · have := dvd_step hx ha e
    exact (h x hx e).congr fun i _ h2 => hm.1.2.1 i (.inl (by omega))
  · have : x = a := by
      by_cases e2 : a < x
      · have := dvd_step ha hx e2; omega
      · omega
    subst this; exact hm.2
theorem Blks.last {k a n : Nat} {d d' : Array α} (h : Blks lt k a d) (ha : k ∣ a) (han : a ≤ n) (hn : n < a + k) (hm : Mrg lt a n d d') : BlkF lt k 0 n d' := by
  intro x hx _
  by_cases e : x < a
  · have := dvd_step hx ha e
    rw [Nat.min_eq_left (by omega)]
    exact (h x hx e).congr fun i _ h2 => hm.1.2.1 i (.inl (by omega))
  · by_cases e2 : a < x
    · have := dvd_step ha hx e2
      rw [Nat.min_eq_right (by omega)]
      exact fun i j h1 h2 h3 => by omega
    · have : x = a := by omega
      subst this
      rw [Nat.min_eq_right (by omega)]
      exact hm.2
theorem BlkF.step {k a n b : Nat} {d d' : Array α} (h : BlkF lt k a n d) (hab : a ≤ b) (hp : PermIn a b d d') : BlkF lt k b n d' := fun x hx hxb =>
  (h x hx (by omega)).congr fun i h1 _ => hp.2.1 i (.inr (by omega))
theorem insMrg (hO : SWO lt) (d : Array α) (a b : Nat) (hab : a ≤ b) (hb : b ≤ d.size) : Mrg lt a b d (Sort.insertionSort lt d a b) := by
  have h := insertionSort_holds hO d a b hab hb
  exact ⟨h.1, h.2⟩
end
def rowLays_ren : Go.Shelf.Ren := ⟨fun | 20 => 205 | n => n, fun | 24 => 86 | 22 => 80 | 3 => 3 | 25 => 165 | 4 => 4 | 0 => 0 | n => n, fun | n => n⟩
theorem rowLays : Go.Proofs.SlLaysF0.n20 Tryz.prog rowLays_ren := {
  mixed := by kernel_rfl
  f20 := ⟨Tryz.f205.name, by decide, Tryz.func205.trans (congrArg some (by kernel_rfl))⟩
  t0 := Tryz.underlying0
  a0 := Tryz.isAgg0
  z0 := Tryz.sizeOf0
  v0 := Tryz.zeroValue0
  t3 := Tryz.underlying3
  a3 := Tryz.isAgg3
  z3 := Tryz.sizeOf3
  v3 := Tryz.zeroValue3
  t4 := Tryz.underlying4
  a4 := Tryz.isAgg4
  z4 := Tryz.sizeOf4
  v4 := Tryz.zeroValue4
  t22 := Tryz.underlying80
  a22 := Tryz.isAgg80
  z22 := Tryz.sizeOf80
  v22 := Tryz.zeroValue80
  t25 := Tryz.underlying165
  a25 := Tryz.isAgg165
  z25 := Tryz.sizeOf165
  v25 := Tryz.zeroValue165 }
theorem cmpLaysR (blk off size : Nat) (w : World) : CmpLays Tryz.prog 152 #[] encR 3 cfR blk off size w := fun _ _ _ _ x y => leastCmp x y _
theorem rowK_of {blk off : Nat} {d : Array Nat} {w : World} (hH : HoldsK encR 3 w blk off d) (hb : blk < w.heap.size) : RowK encR 3 w blk off d where
  hk _ := rfl
  h1 x v hv := by simp [encR, rcells] at hv; rcases hv with rfl | rfl | rfl <;> rfl
  hH := hH
  hblk := hb
set_option maxHeartbeats 8000000 in
set_option maxRecDepth 1000000 in
theorem stable_any (blk off cap : Nat) (d : Array Nat) (w0 : World) (hH : HoldsK encR 3 w0 blk off d) (hblk : blk < w0.heap.size) (hsz : d.size ≤ 1000000000) :
    Calls Tryz.prog 188 #[.slice (some ⟨blk, off, none⟩) d.size cap, .int .i64 d.size, .func (.func 152) #[] #[]] w0 fun e w' => e = .returned (.tuple #[]) ∧ ∃ dn, Mrg (ltOf cfR) 0 d.size d dn ∧ SWK encR 3 w0 blk off dn w' := by
  have R := rowK_of hH hblk
  have eg : ∀ args w, (callFunc 152 args).run Tryz.prog w = .ok (.enter 152 args) w := enters_of Tryz.func152 (by kernel_rfl) rfl
  have HINS : Hid (∀ (a b : Nat) (dk : Array Nat) (w : World), dk.size = d.size → SWK encR 3 w0 blk off dk w → a ≤ b → b ≤ d.size →
      Calls Tryz.prog 205 #[.slice (some ⟨blk, off, none⟩) d.size cap, .int .i64 a, .int .i64 b, .func (.func 152) #[] #[]] w fun e w' => e = .returned (.tuple #[]) ∧ ∃ dn, Mrg (ltOf cfR) a b dk dn ∧ SWK encR 3 w0 blk off dn w') :=
    Lib.hid fun a b dk w h1 h2 h3 h4 => by
      have := AnyQ.insertionSortCmpFunc_w (P := Tryz.prog) rowLays 3 Tryz.isAgg86 Tryz.sizeOf86 encR cfR 152 #[] blk off cap a b d dk w0 w eg (cmpLaysR blk off d.size w0) R h1.symm h2 swoR h3 (by omega) (by omega)
      rw [h1] at this
      exact this.mono fun e w' ⟨he, hw⟩ => ⟨he, _, insMrg swoR dk a b h3 (by omega), hw⟩
  have HSYM : Hid (∀ (a m b : Nat) (dk : Array Nat) (w : World), dk.size = d.size → SWK encR 3 w0 blk off dk w → a < m → m < b → b ≤ d.size → SortedIn (ltOf cfR) a m dk → SortedIn (ltOf cfR) m b dk →
      Calls Tryz.prog 206 #[.slice (some ⟨blk, off, none⟩) d.size cap, .int .i64 a, .int .i64 m, .int .i64 b, .func (.func 152) #[] #[]] w fun e w' => e = .returned (.tuple #[]) ∧ ∃ dn, Mrg (ltOf cfR) a b dk dn ∧ SWK encR 3 w0 blk off dn w') :=
    Lib.hid fun a m b dk w h1 h2 h3 h4 h5 h6 h7 => symMerge_o 3 stL encR cfR swoR 152 #[] eg blk off cap d w0 (cmpLaysR blk off d.size w0) R (by omega) (b - a) a m b dk w (Nat.le_refl _) h1.symm h2 h3 h4 (by omega) h6 h7
  have S0 : Aside (SWK encR 3 w0 blk off d w0) := SWK.start hH
  have HH : Hid _ := R
  clear R hH eg
  obtain ⟨n, hn⟩ : ∃ n, n = d.size := ⟨_, rfl⟩
  have HN := Lib.hid hn
  rw [← hn] at HINS HSYM hsz ⊢
  clear hn
  go_enter Tryz.func188, Tryz.ntmps188
  go_wp2
  go_loopg [7, 8] (n + 20) (fun kx s7 s8 wr => ∃ (a : Nat) (dk : Array Nat), s7 = .int .i64 a ∧ s8 = .int .i64 (a + 20 : Nat) ∧ a ≤ n ∧ n + 20 - a ≤ kx ∧ Aside (SWK encR 3 w0 blk off dk wr) ∧ Hid (20 ∣ a ∧ PermIn 0 n d dk ∧ Blks (ltOf cfR) 20 a dk))
  case atStart => exact ⟨0, d, rfl, rfl, Nat.zero_le _, by omega, S0, Lib.hid ⟨⟨0, rfl⟩, permIn_refl _ _ _, fun x _ h => by omega⟩⟩
  case round =>
    clear S0
    obtain ⟨a, dk, rfl, rfl, han, hkx, S1, HW⟩ := hrel
    obtain ⟨b, hb⟩ : ∃ b, b = a + 20 := ⟨_, rfl⟩
    rw [← hb]
    have hds : dk.size = n := by rw [HW.out.2.1.1, HN.out]
    by_cases hlt : b ≤ n
    · have hltz : (b : Int) ≤ (n : Int) := by omega
      have HCI := Lib.hid (HINS.out a b dk wr (by have := HN.out; omega) S1.out (by omega) (by omega))
      have HB := Lib.hid hb
      have hb20 : (b : Int) + 20 < 4611686018427387904 := by omega
      have hba : a < b := by omega
      have hbk : n + 20 - b < n + 20 - a := by omega
      clear hb S1 hds
      go_wp2_with (go_at_call 205; refine HCI.out.mono ?_; rintro e w2 ⟨rfl, dn, hm, hs⟩)
      have hrel2 : Hid (20 ∣ b ∧ PermIn 0 n d dn ∧ Blks (ltOf cfR) 20 b dn) := by
        obtain ⟨h1, h2, h3⟩ := HW.out
        have hm' := hm
        rw [HB.out] at hm' ⊢
        exact Lib.hid ⟨Nat.dvd_add h1 (Nat.dvd_refl 20), permIn_trans _ _ _ _ _ h2 (permIn_mono _ _ _ _ _ _ (Nat.zero_le _) (by have := HB.out; omega) (by rw [h2.1, HN.out]; omega) hm'.1), h3.step h1 hm'⟩
      have S2 : Aside (SWK encR 3 w0 blk off dn w2) := hs
      clear hm hs HCI HW HB
      go_wp2
      go_roundg (n + 20 - b)
      case measure => omega
      case rel => exact ⟨b, dn, rfl, by go_num, hlt, Nat.le_refl _, S2, hrel2⟩
    · have hltz : ¬ (b : Int) ≤ (n : Int) := by omega
      have HCI := Lib.hid (HINS.out a n dk wr (by have := HN.out; omega) S1.out han (Nat.le_refl _))
      have HB := Lib.hid hb
      have hnb : n < a + 20 := by omega
      clear hb S1 hds
      go_wp2_with (go_at_call 205; refine HCI.out.mono ?_; rintro e w2 ⟨rfl, dn, hm, hs⟩)
      have hrel2 : Hid (PermIn 0 n d dn ∧ BlkF (ltOf cfR) 20 0 n dn) := by
        obtain ⟨h1, h2, h3⟩ := HW.out
        exact Lib.hid ⟨permIn_trans _ _ _ _ _ h2 (permIn_mono _ _ _ _ _ _ (Nat.zero_le _) (Nat.le_refl _) (by rw [h2.1, HN.out]; exact Nat.le_refl _) hm.1), h3.last h1 han hnb hm⟩
      have S2 : Aside (SWK encR 3 w0 blk off dn w2) := hs
      clear hm hs HCI HW HB
      go_wp2
      clear HINS
      go_loopg [6] n (fun kx s6 wr => ∃ (bs : Nat) (dk : Array Nat), s6 = .int .i64 bs ∧ 0 < bs ∧ bs ≤ 2000000000 ∧ n - bs ≤ kx ∧ Aside (SWK encR 3 w0 blk off dk wr) ∧ Hid (PermIn 0 n d dk ∧ BlkF (ltOf cfR) bs 0 n dk))
      case atStart => exact ⟨20, dn, rfl, by omega, by omega, by omega, S2, hrel2⟩
      case round =>
        clear S2 hrel2 hltz hnb hkx han
        obtain ⟨bs, dk2, rfl, hbs0, hbs9, hkx2, S3, HW⟩ := hrel
        by_cases hlt2 : bs < n
        · have hltz2 : (bs : Int) < (n : Int) := by omega
          obtain ⟨t, ht⟩ : ∃ t, t = 2 * bs := ⟨_, rfl⟩
          have q1 : 2 * (bs : Int) = (t : Int) := by omega
          have q2 : (bs : Int) * 2 = (t : Int) := by omega
          have ht9 : (t : Int) ≤ 2000000000 := by omega
          have HT := Lib.hid ht
          have hbst : bs < t := by omega
          clear ht
          go_wp2
          go_loopg [7, 8] (n + t) (fun kx s7 s8 wr => ∃ (a c : Nat) (dk : Array Nat), s7 = .int .i64 a ∧ s8 = .int .i64 c ∧ Hid (c = a + t) ∧ a ≤ n ∧ n + t - a ≤ kx ∧ Aside (SWK encR 3 w0 blk off dk wr) ∧ Hid (t ∣ a ∧ PermIn 0 n d dk ∧ Blks (ltOf cfR) t a dk ∧ BlkF (ltOf cfR) bs a n dk))
          case atStart => exact ⟨0, t, dk2, rfl, rfl, Lib.hid (by omega), Nat.zero_le _, by omega, S3, Lib.hid ⟨⟨0, rfl⟩, HW.out.1, fun x _ h => by omega, HW.out.2⟩⟩
          case round =>
            clear S3 HW
            obtain ⟨a2, c, dk3, rfl, rfl, HCA, han2, hkx3, S4, HW⟩ := hrel
            have hca := HCA.out
            obtain ⟨m, hm⟩ : ∃ m, m = a2 + bs := ⟨_, rfl⟩
            have q3 : (a2 : Int) + (bs : Int) = (m : Int) := by omega
            have hm9 : (m : Int) ≤ 4000000000 := by omega
            have hdsz : dk3.size = d.size := HW.out.2.1.1
            have hdsa : d.size = n := HN.out.symm
            have HDV : Hid (bs ∣ a2 ∧ bs ∣ m) := Lib.hid (by
              have h1 : bs ∣ a2 := Nat.dvd_trans ⟨2, by have := HT.out; omega⟩ HW.out.1
              exact ⟨h1, by rw [hm]; exact Nat.dvd_add h1 (Nat.dvd_refl bs)⟩)
            have HL : Hid (SortedIn (ltOf cfR) a2 (min m n) dk3) := Lib.hid (by rw [hm]; exact HW.out.2.2.2 a2 HDV.out.1 (Nat.le_refl _))
            have HR : Hid (SortedIn (ltOf cfR) m (min c n) dk3) := Lib.hid (by
              have h := HW.out.2.2.2 m HDV.out.2 (by omega)
              rw [show m + bs = c by have := HT.out; omega] at h; exact h)
            by_cases hlt3 : c ≤ n
            · have hltz3 : (c : Int) ≤ (n : Int) := by omega
              have hl2 : SortedIn (ltOf cfR) a2 m dk3 := by have h := HL.out; rw [Nat.min_eq_left (by omega)] at h; exact h
              have hr2 : SortedIn (ltOf cfR) m c dk3 := by have h := HR.out; rw [Nat.min_eq_left (by omega)] at h; exact h
              have HCS := Lib.hid (HSYM.out a2 m c dk3 wr (by omega) S4.out (by omega) (by have := HT.out; omega) hlt3 hl2 hr2)
              obtain ⟨c', hc'⟩ : ∃ c', c' = c + t := ⟨_, rfl⟩
              have q4 : (c : Int) + (t : Int) = (c' : Int) := by omega
              have hc9 : (c' : Int) ≤ 8000000000 := by omega
              have HCC : Hid (c' = c + t) := Lib.hid hc'
              have hac : a2 < c := by omega
              clear hm hl2 hr2 hc' hca S4 hdsz hdsa
              go_wp2_with (go_at_call 206; refine HCS.out.mono ?_; rintro e w3 ⟨rfl, d4, hmg, hs4⟩)
              have hrel4 : Hid (t ∣ c ∧ PermIn 0 n d d4 ∧ Blks (ltOf cfR) t c d4 ∧ BlkF (ltOf cfR) bs c n d4) := by
                obtain ⟨h1, h2, h3, h4⟩ := HW.out
                have hc := HCA.out
                refine Lib.hid ⟨by rw [hc]; exact Nat.dvd_add h1 (Nat.dvd_refl t), permIn_trans _ _ _ _ _ h2 (permIn_mono _ _ _ _ _ _ (Nat.zero_le _) hlt3 (by rw [h2.1, HN.out]; exact Nat.le_refl _) hmg.1), ?_, h4.step (by omega) hmg.1⟩
                rw [hc] at hmg ⊢
                exact h3.step h1 hmg
              have S5 : Aside (SWK encR 3 w0 blk off d4 w3) := hs4
              have hgo : n + t - c < n + t - a2 := by omega
              clear hmg hs4 HCS HW HCA HL HR HDV q3
              go_wp2
              go_roundg (n + t - c)
              case measure => omega
              case rel => exact ⟨c, c', d4, rfl, rfl, HCC, hlt3, Nat.le_refl _, S5, hrel4⟩
            · have hltz3 : ¬ (c : Int) ≤ (n : Int) := by omega
              by_cases hlt4 : m < n
              · have hltz4 : (m : Int) < (n : Int) := by omega
                have hl2 : SortedIn (ltOf cfR) a2 m dk3 := by have h := HL.out; rw [Nat.min_eq_left (by omega)] at h; exact h
                have hr2 : SortedIn (ltOf cfR) m n dk3 := by have h := HR.out; rw [Nat.min_eq_right (by omega)] at h; exact h
                have HCS := Lib.hid (HSYM.out a2 m n dk3 wr (by omega) S4.out (by omega) hlt4 (by omega) hl2 hr2)
                have hcn : n < a2 + t := by omega
                clear hm hl2 hr2 hca S4 hdsz hdsa
                go_wp2_with (go_at_call 206; refine HCS.out.mono ?_; rintro e w3 ⟨rfl, d4, hmg, hs4⟩)
                have hrel4 : Hid (PermIn 0 n d d4 ∧ BlkF (ltOf cfR) t 0 n d4) := by
                  obtain ⟨h1, h2, h3, h4⟩ := HW.out
                  exact Lib.hid ⟨permIn_trans _ _ _ _ _ h2 (permIn_mono _ _ _ _ _ _ (Nat.zero_le _) (Nat.le_refl _) (by rw [h2.1, HN.out]; exact Nat.le_refl _) hmg.1), h3.last h1 han2 hcn hmg⟩
                have S5 : Aside (SWK encR 3 w0 blk off d4 w3) := hs4
                have hgo : n - t < n - bs := by omega
                clear hmg hs4 HCS HW HCA HL HR HDV q3
                go_wp2
                go_roundg (n - t)
                case measure => omega
                case rel => exact ⟨t, d4, rfl, by omega, by omega, Nat.le_refl _, S5, hrel4⟩
              · have hltz4 : ¬ (m : Int) < (n : Int) := by omega
                have hcn : n < a2 + t := by omega
                have hrel4 : Hid (PermIn 0 n d dk3 ∧ BlkF (ltOf cfR) t 0 n dk3) := by
                  obtain ⟨h1, h2, h3, h4⟩ := HW.out
                  have hl2 : SortedIn (ltOf cfR) a2 n dk3 := by have h := HL.out; rw [Nat.min_eq_right (by omega)] at h; exact h
                  exact Lib.hid ⟨h2, h3.last h1 han2 hcn ⟨permIn_refl _ _ _, hl2⟩⟩
                have hgo : n - t < n - bs := by omega
                clear hm hca hdsz hdsa HW HCA HL HR HDV
                go_wp2
                go_roundg (n - t)
                case measure => omega
                case rel => exact ⟨t, dk3, rfl, by omega, by omega, Nat.le_refl _, S4, hrel4⟩
        · have hltz2 : ¬ (bs : Int) < (n : Int) := by omega
          have HF : Hid (Mrg (ltOf cfR) 0 n d dk2) := Lib.hid ⟨HW.out.1, by have h := HW.out.2 0 ⟨0, rfl⟩ (Nat.le_refl _); rw [Nat.min_eq_right (by omega)] at h; exact h⟩
          go_wp2
          go_end0
          exact ⟨rfl, dk2, HF.out, S3.out⟩
end Go.Proofs.YtngbjdaaogbjmaaGreat

/-
  Slices of rows of topdown. Walk: topdown.greatest.
-/
namespace Go.Proofs.YtngbjdaaogbjmaaGreat
open Go.RowKit

/-- A slice of rows that can be read. -/
def RwsAt (w : World) (v : Value) (L : List Nat) : Prop :=
  ∃ (a : Option Addr) (c : Nat), v = .slice a L.length c ∧ (L.length ≤ c ∧ (a = none → c = 0)) ∧ L.length ≤ 10000 ∧ (∀ c ∈ L, RowLt 152 c) ∧
    ∀ i (h : i < L.length), ∃ b o, a = some ⟨b, o, none⟩ ∧ w.rangeAt b (o + i * 3) (rcells L[i])
theorem range_kept {w w' : World} {b o : Nat} {cs : List Value} (h : w.rangeAt b o cs) (hk : Kept w w') : w'.rangeAt b o cs := fun j v hj => hk.cell (h j v hj)
theorem RwsAt.kept {w w' : World} {v : Value} {L : List Nat} (h : RwsAt w v L) (hk : Kept w w') : RwsAt w' v L := by
  obtain ⟨a, c, h1, h2, h3, h4, h5⟩ := h
  exact ⟨a, c, h1, h2, h3, h4, fun i hi => let ⟨b, o, h6, h7⟩ := h5 i hi; ⟨b, o, h6, range_kept h7 hk⟩⟩
/-- Rows of the call's own. -/
def OwnRws (w : World) (B : Nat) (v : Value) (L : List Nat) : Prop :=
  w.ownsRow B 86 3 v L.length (L.flatMap rcells) ∧ L.length ≤ 10000 ∧ ∀ c ∈ L, RowLt 152 c
theorem OwnRws.kept {w w' : World} {B : Nat} {v : Value} {L : List Nat} (h : OwnRws w B v L) (hk : Kept w w') : OwnRws w' B v L := ⟨own_kept h.1 hk, h.2⟩
theorem OwnRws.mono {w : World} {B B' : Nat} {v : Value} {L : List Nat} (h : OwnRws w B v L) (hb : B' ≤ B) : OwnRws w B' v L := ⟨own_mono h.1 hb, h.2⟩
theorem OwnRws.nil (w : World) (B : Nat) : OwnRws w B (.slice none 0 0) [] := ⟨World.ownsRow_nil _ _ _ _, by simp, by simp⟩
theorem len_flat (L : List Nat) : (L.flatMap rcells).length = L.length * 3 := by
  induction L with
  | nil => rfl
  | cons c L ih => simp [rcells, ih]; omega
theorem flat_get (L : List Nat) : ∀ i (h : i < L.length) j, j < 3 → (L.flatMap rcells)[i * 3 + j]? = (rcells L[i])[j]? := by
  induction L with
  | nil => intro i h; simp at h
  | cons c L ih =>
    intro i h j hj
    rw [List.flatMap_cons]
    cases i with
    | zero => rw [List.getElem?_append_left (by simp [rcells]; omega)]; simp
    | succ i =>
      rw [List.getElem?_append_right (by simp [rcells]; omega), show (rcells c).length = 3 from rfl, show (i + 1) * 3 + j - 3 = i * 3 + j by omega]
      exact ih i (by simpa using h) j hj
theorem OwnRws.at {w : World} {B : Nat} {v : Value} {L : List Nat} (h : OwnRws w B v L) : RwsAt w v L := by
  obtain ⟨⟨h1, h2⟩, h3, h4⟩ := h
  rcases h2 with ⟨rfl, h6⟩ | ⟨g, cap, cur, rfl, h6, h7, h8, h9, h10, h11⟩
  · have : L = [] := List.eq_nil_of_length_eq_zero h6
    subst this
    exact ⟨none, 0, rfl, ⟨by simp, fun _ => rfl⟩, by simp, by simp, fun i h => by simp at h⟩
  · refine ⟨some ⟨g, 0, none⟩, cap, rfl, ⟨h8, fun h => by cases h⟩, h3, h4, fun i hi => ⟨g, 0, rfl, fun j u hj => ?_⟩⟩
    have hj3 : j < 3 := by
      have := (List.getElem?_eq_some_iff.1 hj).1
      simpa [rcells] using this
    have e1 : (cur.toList.take (L.length * 3))[i * 3 + j]? = (L.flatMap rcells)[i * 3 + j]? := by rw [h11]
    rw [List.getElem?_take_of_lt (by omega), flat_get L i hi j hj3, hj] at e1
    simp only [World.cell?, h7, Nat.zero_add]
    simpa using e1
theorem RwsAt.shape {w : World} {v : Value} {L : List Nat} (h : RwsAt w v L) : ∃ a c, v = .slice a L.length c := by
  obtain ⟨a, c, h, _⟩ := h; exact ⟨a, c, h⟩
/-- The greatest node of a row. -/
def TopIs (c : Nat) (r : Int) : Prop := (∀ j, c.testBit (24 + j) = true → (j : Int) ≤ r) ∧ (r = -1 ∨ ∃ i : Nat, r = i ∧ c.testBit (24 + i) = true)
def GTop (L : List Nat) (r : Int) : Prop := (∀ c ∈ L, ∀ j, c.testBit (24 + j) = true → (j : Int) ≤ r) ∧ (r = -1 ∨ ∃ i : Nat, r = i ∧ ∃ c ∈ L, c.testBit (24 + i) = true)
theorem bitLen_top {x : Nat} (h : x < 18446744073709551616) (h0 : x ≠ 0) : ∃ n, Lib.bitLen x = n + 1 ∧ n < 64 ∧ x.testBit n = true ∧ ∀ j, x.testBit j = true → j ≤ n := by
  obtain ⟨h1, h2, h3⟩ := Lib.bitLenAux_bounds 64 x h h0
  have h4 := Lib.bitLen_le x 64 (by omega) h
  unfold Lib.bitLen at *
  obtain ⟨n, hn⟩ : ∃ n, Lib.bitLenAux 64 x = n + 1 := ⟨Lib.bitLenAux 64 x - 1, by omega⟩
  rw [hn] at h2 h3 h4
  refine ⟨n, hn, by omega, ?_, fun j hj => ?_⟩
  · have h2' : 2 ^ n ≤ x := h2
    obtain ⟨i, hi, hb⟩ := Nat.exists_ge_and_testBit_of_ge_two_pow h2'
    by_cases e : i = n
    · subst e; exact hb
    · rw [Nat.testBit_lt_two_pow (Nat.lt_of_lt_of_le h3 (Nat.pow_le_pow_right (by omega) (by omega)))] at hb; cases hb
  · apply Nat.le_of_not_lt
    intro hlt
    rw [Nat.testBit_lt_two_pow (Nat.lt_of_lt_of_le h3 (Nat.pow_le_pow_right (by omega) (by omega)))] at hj; cases hj
theorem topIs_hi {c n : Nat} (h1 : (hiW c).testBit n = true) (h2 : ∀ j, (hiW c).testBit j = true → j ≤ n) : TopIs c ((64 + n : Nat) : Int) := by
  refine ⟨fun j hj => ?_, .inr ⟨64 + n, rfl, by rw [hiW_bit] at h1; rw [show 24 + (64 + n) = 88 + n by omega]; exact h1⟩⟩
  by_cases c1 : j < 64
  · omega
  · have := h2 (j - 64) (by rw [hiW_bit, show 88 + (j - 64) = 24 + j by omega]; exact hj)
    omega
theorem topIs_lo {c n : Nat} (h0 : hiW c = 0) (h1 : (loW c).testBit n = true) (h2 : ∀ j, (loW c).testBit j = true → j ≤ n) : TopIs c (n : Int) := by
  have hn : n < 64 := by rw [loW_bit] at h1; simp at h1; exact h1.1
  refine ⟨fun j hj => ?_, .inr ⟨n, rfl, by rw [loW_bit] at h1; simp at h1; exact h1.2⟩⟩
  by_cases c1 : j < 64
  · have := h2 j (by rw [loW_bit]; simp [c1, hj])
    omega
  · have h3 : (hiW c).testBit (j - 64) = true := by rw [hiW_bit, show 88 + (j - 64) = 24 + j by omega]; exact hj
    rw [h0] at h3; simp at h3
theorem topIs_none {c : Nat} (h0 : hiW c = 0) (h1 : loW c = 0) : TopIs c (-1) := by
  refine ⟨fun j hj => ?_, .inl rfl⟩
  exfalso
  by_cases c1 : j < 64
  · have h3 : (loW c).testBit j = true := by rw [loW_bit]; simp [c1, hj]
    rw [h1] at h3; simp at h3
  · have h3 : (hiW c).testBit (j - 64) = true := by rw [hiW_bit, show 88 + (j - 64) = 24 + j by omega]; exact hj
    rw [h0] at h3; simp at h3
theorem GTop.snoc {L : List Nat} {c : Nat} {r s : Int} (h : GTop L r) (hc : TopIs c s) : GTop (L ++ [c]) (max r s) := by
  obtain ⟨h1, h2⟩ := h
  obtain ⟨h3, h4⟩ := hc
  refine ⟨fun x hx j hj => ?_, ?_⟩
  · rcases List.mem_append.1 hx with hx | hx
    · have := h1 x hx j hj; omega
    · simp at hx; subst hx
      have := h3 j hj; omega
  · by_cases e : r ≤ s
    · rw [show max r s = s by omega]
      rcases h4 with h4 | ⟨i, h4, h5⟩
      · exact .inl h4
      · exact .inr ⟨i, h4, c, by simp, h5⟩
    · rw [show max r s = r by omega]
      rcases h2 with h2 | ⟨i, h2, x, hx, h5⟩
      · exact .inl h2
      · exact .inr ⟨i, h2, x, List.mem_append.2 (.inl hx), h5⟩
theorem GTop.nil : GTop [] (-1) := ⟨fun c h => by simp at h, .inl rfl⟩
set_option maxRecDepth 100000 in
set_option maxHeartbeats 4000000 in
theorem greatest_any (v : Value) (L : List Nat) (w : World) (hv : RwsAt w v L) : Calls Tryz.prog 92 #[v] w fun e w' => (∃ r : Int, e = .returned (.int .i64 r) ∧ GTop L r) ∧ Kept w w' := by
  have HV := Lib.hid hv
  obtain ⟨sa, sc, hs, _, hl9, _⟩ := hv
  subst hs
  obtain ⟨n, hn⟩ : ∃ n, n = L.length := ⟨_, rfl⟩
  have HN := Lib.hid hn
  rw [← hn] at hl9 ⊢
  have HV2 : Hid (RwsAt w (.slice sa n sc) L) := Lib.hid (by rw [hn]; exact HV.out)
  clear hn HV
  go_enter Tryz.func92, Tryz.ntmps92
  go_wp2
  go_loopg [3, 9] n (fun kx s3 s9 wr => ∃ (k : Nat) (r : Int), s3 = .int .i64 r ∧ s9 = .int .i64 k ∧ k ≤ n ∧ n - k ≤ kx ∧ -1 ≤ r ∧ r ≤ 1000 ∧ Hid (GTop (L.take k) r) ∧ Hid (Kept w wr))
  case atStart => exact ⟨0, -1, rfl, rfl, Nat.zero_le _, by omega, by omega, by omega, Lib.hid GTop.nil, Lib.hid (Kept.refl _)⟩
  case round =>
    obtain ⟨k, r, rfl, rfl, hk, hkx, hr0, hr9, HG, HK⟩ := hrel
    by_cases hlt : k < n
    · have hkl : k < L.length := by have := HN.out; omega
      obtain ⟨b, o, rfl, hrg⟩ : ∃ b o, sa = some ⟨b, o, none⟩ ∧ wr.rangeAt b (o + k * 3) (rcells L[k]) := by
        obtain ⟨a', c', h1, _, _, _, h5⟩ := HV2.out.kept HK.out
        injection h1 with h1 h2 h3
        subst h1
        exact h5 k hkl
      have hc152 : RowLt 152 L[k] := by obtain ⟨_, _, _, _, _, h4, _⟩ := HV2.out; exact h4 _ (List.getElem_mem _)
      have HS : Hid (∀ s, TopIs L[k] s → GTop (L.take (k + 1)) (max r s)) := Lib.hid fun s hs => by
        rw [List.take_succ_eq_append_getElem hkl]; exact HG.out.snoc hs
      have hlo := loW_lt L[k]
      have hhi := hiW_lt hc152
      have HT1 : Hid (∀ m, (hiW L[k]).testBit m = true → (∀ j, (hiW L[k]).testBit j = true → j ≤ m) → TopIs L[k] ((64 + m : Nat) : Int)) := Lib.hid fun m h1 h2 => topIs_hi h1 h2
      have HT2 : Hid (∀ m, hiW L[k] = 0 → (loW L[k]).testBit m = true → (∀ j, (loW L[k]).testBit j = true → j ≤ m) → TopIs L[k] (m : Int)) := Lib.hid fun m h0 h1 h2 => topIs_lo h0 h1 h2
      have HT3 : Hid (hiW L[k] = 0 → loW L[k] = 0 → TopIs L[k] (-1)) := Lib.hid fun h0 h1 => topIs_none h0 h1
      have HLEN : Hid (∀ x W, x < 18446744073709551616 → Calls Tryz.prog 140 #[.int .u64 (x : Nat)] W fun e w' => e = .returned (.int .i64 (Lib.bitLen x)) ∧ W = w') := Lib.hid fun x W h => (Tryz.bits_Len64 (x : Int) W (by omega) (by omega)).mono fun _ _ h => ⟨by rw [h.1]; simp, h.2.symm⟩
      unfold rcells at hrg
      generalize evW L[k] = ev at hrg
      generalize hiW L[k] = hi at hrg hhi HT1 HT2 HT3
      generalize loW L[k] = lo at hrg hlo HT1 HT2 HT3
      have HRG := Lib.hid hrg
      clear hrg
      go_wp2_with (with_reducible refine wpList_load_mid rfl 86 _ rfl b (o + k * 3) rfl _ _ HRG.out Tryz.underlying86 rfl (by kernel_rfl) ?_)
      have HRN := HN.out
      by_cases hhi0 : hi = 0
      · have b1 : ((hi : Int) != 0) = false := by simp [hhi0]
        by_cases hlo0 : lo = 0
        · have b2 : ((lo : Int) != 0) = false := by simp [hlo0]
          have HF : Hid (GTop (L.take (k + 1)) r) := Lib.hid (by have h := HS.out _ (HT3.out hhi0 hlo0); rw [show max r (-1) = r by omega] at h; exact h)
          clear hhi0 hlo0 HRN
          refine wp_loop_rounds 3 ?_
          rw [rounds_succ]
          go_wp2
          rw [rounds_succ]
          go_wp2
          rw [rounds_succ]
          go_wp2
          go_roundg (n - (k + 1))
          case measure => omega
          case rel => exact ⟨k + 1, r, rfl, by go_num, by omega, Nat.le_refl _, hr0, hr9, HF, Lib.hid (HK.out.alloc _)⟩
        · have b2 : ((lo : Int) != 0) = true := by simp; omega
          obtain ⟨m, hm1, hm2, hm3, hm4⟩ := bitLen_top hlo hlo0
          have HC := Lib.hid (fun W => HLEN.out lo W hlo)
          rw [hm1] at HC
          have HF : Hid (GTop (L.take (k + 1)) (max r m)) := Lib.hid (HS.out _ (HT2.out m hhi0 hm3 hm4))
          obtain ⟨m1, hm⟩ : ∃ x, x = m + 1 := ⟨_, rfl⟩
          rw [← hm] at HC
          have q1 : (m1 : Int) - 1 = (m : Int) := by omega
          have hm9 : m1 ≤ 64 := by omega
          clear hhi0 hlo0 HRN hm1 hm3 hm4 hm
          refine wp_loop_rounds 2 ?_
          rw [rounds_succ]
          go_wp2
          rw [rounds_succ]
          go_wp2_with (go_at_call 140; refine (HC.out _).mono ?_; rintro e w2 ⟨rfl, rfl⟩)
          go_roundg (n - (k + 1))
          case measure => omega
          case rel => exact ⟨k + 1, max r m, rfl, by go_num, by omega, Nat.le_refl _, by omega, by omega, HF, Lib.hid (HK.out.alloc _)⟩
      · have b1 : ((hi : Int) != 0) = true := by simp; omega
        obtain ⟨m, hm1, hm2, hm3, hm4⟩ := bitLen_top hhi hhi0
        have HC := Lib.hid (fun W => HLEN.out hi W hhi)
        rw [hm1] at HC
        obtain ⟨z, hz⟩ : ∃ z, z = 64 + m := ⟨_, rfl⟩
        have HF : Hid (GTop (L.take (k + 1)) (max r z)) := Lib.hid (by rw [hz]; exact HS.out _ (HT1.out m hm3 hm4))
        obtain ⟨m1, hm⟩ : ∃ x, x = m + 1 := ⟨_, rfl⟩
        rw [← hm] at HC
        have q1 : (64 : Int) + (m1 : Int) - 1 = (z : Int) := by omega
        have hz9 : z ≤ 1000 := by omega
        have hm9 : m1 ≤ 64 := by omega
        clear hhi0 HRN hm1 hm3 hm4 hm hz
        refine wp_loop_rounds 1 ?_
        rw [rounds_succ]
        go_wp2_with (go_at_call 140; refine (HC.out _).mono ?_; rintro e w2 ⟨rfl, rfl⟩)
        go_roundg (n - (k + 1))
        case measure => omega
        case rel => exact ⟨k + 1, max r z, rfl, by go_num, by omega, Nat.le_refl _, by omega, by omega, HF, Lib.hid (HK.out.alloc _)⟩
    · have hke : k = n := by omega
      have HF : Hid (GTop L r) := Lib.hid (by have h := HG.out; rw [hke, HN.out, List.take_length] at h; exact h)
      go_wp2
      go_ret
      exact ⟨⟨_, rfl, HF.out⟩, HK.out⟩
end Go.Proofs.YtngbjdaaogbjmaaGreat
