/-
  Plain numbers: what the bit operations are on masks; the number of bits by the swar sum.
-/
import Derived.Test.YtcgfjacidjebaaaRows
import Derived.WalkKit
namespace Go.Proofs.Ytcgfjacidjebaaa
open Go.RowKit

theorem wrap_u64 (n : Nat) (h : n < 18446744073709551616) : IntKind.u64.wrap (n : Int) = n := by
  have h1 : IntKind.u64.wrap (n : Int) = (n : Int) % 18446744073709551616 := rfl
  rw [h1]; omega
theorem wrap_i64 (x : Int) (h0 : 0 ≤ x) (h : x < 9223372036854775808) : IntKind.i64.wrap x = x := by
  rw [IntKind.wrap_i64]; omega
theorem ofNat_toNat (n : Nat) (h : n < 18446744073709551616) : (BitVec.ofInt 64 (n : Int)).toNat = n := by
  simp; omega
theorem and_u64 (a b : Nat) (ha : a < 18446744073709551616) (hb : b < 18446744073709551616) : bits .and .u64 (a : Int) (b : Int) = ((a &&& b : Nat) : Int) := by
  have h : (BitVec.ofInt 64 (a : Int) &&& BitVec.ofInt 64 (b : Int)).toNat = a &&& b := by rw [BitVec.toNat_and, ofNat_toNat a ha, ofNat_toNat b hb]
  show IntKind.u64.wrap (((BitVec.ofInt 64 (a : Int) &&& BitVec.ofInt 64 (b : Int)).toNat : Nat) : Int) = _
  rw [h]; exact wrap_u64 _ (Nat.lt_of_le_of_lt Nat.and_le_left ha)
theorem and_i64 (a b : Nat) (ha : a < 9223372036854775808) (hb : b < 9223372036854775808) : bits .and .i64 (a : Int) (b : Int) = ((a &&& b : Nat) : Int) := by
  have h : (BitVec.ofInt 64 (a : Int) &&& BitVec.ofInt 64 (b : Int)).toNat = a &&& b := by rw [BitVec.toNat_and, ofNat_toNat a (by omega), ofNat_toNat b (by omega)]
  show IntKind.i64.wrap (((BitVec.ofInt 64 (a : Int) &&& BitVec.ofInt 64 (b : Int)).toNat : Nat) : Int) = _
  rw [h]; have := Nat.and_le_left (n := a) (m := b); exact wrap_i64 _ (by omega) (by omega)
theorem or_i64 (a b : Nat) (ha : a < 9223372036854775808) (hb : b < 9223372036854775808) : bits .or .i64 (a : Int) (b : Int) = ((a ||| b : Nat) : Int) := by
  have h : (BitVec.ofInt 64 (a : Int) ||| BitVec.ofInt 64 (b : Int)).toNat = a ||| b := by rw [BitVec.toNat_or, ofNat_toNat a (by omega), ofNat_toNat b (by omega)]
  show IntKind.i64.wrap (((BitVec.ofInt 64 (a : Int) ||| BitVec.ofInt 64 (b : Int)).toNat : Nat) : Int) = _
  rw [h]; have := Nat.or_lt_two_pow (n := 63) (x := a) (y := b) (by omega) (by omega); exact wrap_i64 _ (by omega) (by omega)
/-- a without b. -/
def sdiff (a b : Nat) : Nat := a ^^^ (a &&& b)
theorem andNot_i64 (a b : Nat) (ha : a < 9223372036854775808) (hb : b < 9223372036854775808) : bits .andNot .i64 (a : Int) (b : Int) = ((sdiff a b : Nat) : Int) := by
  have h : (BitVec.ofInt 64 (a : Int) &&& ~~~ BitVec.ofInt 64 (b : Int)).toNat = sdiff a b := by
    have e : BitVec.ofInt 64 (a : Int) &&& ~~~ BitVec.ofInt 64 (b : Int) = BitVec.ofInt 64 (a : Int) ^^^ (BitVec.ofInt 64 (a : Int) &&& BitVec.ofInt 64 (b : Int)) := by
      ext i hi
      simp only [BitVec.getElem_and, BitVec.getElem_not, BitVec.getElem_xor]
      cases (BitVec.ofInt 64 (a : Int))[i] <;> cases (BitVec.ofInt 64 (b : Int))[i] <;> rfl
    rw [e, BitVec.toNat_xor, BitVec.toNat_and, ofNat_toNat a (by omega), ofNat_toNat b (by omega)]; rfl
  show IntKind.i64.wrap (((BitVec.ofInt 64 (a : Int) &&& ~~~ BitVec.ofInt 64 (b : Int)).toNat : Nat) : Int) = _
  rw [h]
  have h2 : sdiff a b < 2 ^ 63 := Nat.xor_lt_two_pow (by omega) (Nat.lt_of_le_of_lt Nat.and_le_left (by omega))
  exact wrap_i64 _ (by omega) (by omega)

/-- The number of bits. -/
def pc (n : Nat) : Nat := if n = 0 then 0 else n % 2 + pc (n / 2)
decreasing_by omega
theorem and_256 (h l H L : Nat) (hl : l < 256) (hL : L < 256) : (256 * h + l) &&& (256 * H + L) = 256 * (h &&& H) + (l &&& L) := by
  have h1 : ((256 * h + l) &&& (256 * H + L)) % 2 ^ 8 = l &&& L := by
    rw [Nat.and_mod_two_pow]; congr 1 <;> omega
  have h2 : ((256 * h + l) &&& (256 * H + L)) / 2 ^ 8 = h &&& H := by
    rw [Nat.and_div_two_pow]; congr 1 <;> omega
  have := Nat.div_add_mod ((256 * h + l) &&& (256 * H + L)) (2 ^ 8)
  rw [h1, h2] at this
  omega
theorem and_bytes (a b c m : Nat) (ha : a < 256) (hb : b < 256) (M : Nat) (hm : m < 256) (hM : M = 256 * (256 * (256 * (M / 16777216) + m) + m) + m) (hc : c < 256) :
    (a + 256 * b + 65536 * c) &&& M = (a &&& m) + 256 * (b &&& m) + 65536 * (c &&& m) := by
  rw [hM, show a + 256 * b + 65536 * c = 256 * (256 * c + b) + a from by omega, and_256 _ _ _ _ ha hm, and_256 _ _ _ _ hb hm,
    show c = 256 * 0 + c from by omega, and_256 _ _ _ _ hc hm]
  simp; omega
def t1 (a : Nat) : Nat := (a / 2 &&& 0x55) + (a &&& 0x55)
def t2 (a : Nat) : Nat := (a / 4 &&& 0x33) + (a &&& 0x33)
def t3 (a : Nat) : Nat := (a / 16 + a) &&& 15
set_option maxRecDepth 100000 in
theorem byte1 : ∀ a < 256, (a / 2 &&& 0x55) = ((a / 2 + 128) &&& 0x55) ∧ t1 a < 171 := by decide
set_option maxRecDepth 100000 in
theorem byte2 : ∀ a < 171, ∀ r < 4, (a / 4 &&& 0x33) = ((a / 4 + 64 * r) &&& 0x33) ∧ t2 a < 103 ∧ t2 a % 16 < 7 := by decide

set_option maxRecDepth 100000 in
theorem byte3 : ∀ a < 103, ∀ r < 7, (a / 16 + 16 * r + a) &&& 15 = (t3 a) ∧ t3 a < 16 := by decide
set_option maxRecDepth 100000 in
theorem byte_pc : ∀ a < 256, t3 (t2 (t1 a)) < 9 := by decide
def s1 (x : Int) : Int := IntKind.u64.wrap (bits .and .u64 (x / 2) 6148914691236517205 + bits .and .u64 x 6148914691236517205)
def s2 (x : Int) : Int := IntKind.u64.wrap (bits .and .u64 (x / 4) 3689348814741910323 + bits .and .u64 x 3689348814741910323)
def s3 (x : Int) : Int := bits .and .u64 (IntKind.u64.wrap (x / 16 + x)) 1085102592571150095
def s4 (x : Int) : Int := IntKind.u64.wrap (x + x / 256)
def s5 (x : Int) : Int := IntKind.u64.wrap (x + x / 65536)
def s6 (x : Int) : Int := IntKind.u64.wrap (x + x / 4294967296)
theorem s1_bytes (a b c : Nat) (ha : a < 256) (hb : b < 256) (hc : c < 256) : s1 ((a + 256 * b + 65536 * c : Nat) : Int) = ((t1 a + 256 * t1 b + 65536 * t1 c : Nat) : Int) := by
  have e1 : ((a + 256 * b + 65536 * c : Nat) : Int) / 2 = (((a / 2 + 128 * (b % 2)) + 256 * (b / 2 + 128 * (c % 2)) + 65536 * (c / 2) : Nat) : Int) := by omega
  have hb2 : b % 2 = 0 ∨ b % 2 = 1 := by omega
  have hc2 : c % 2 = 0 ∨ c % 2 = 1 := by omega
  have ka := byte1 a ha
  have kb := byte1 b hb
  have kc := byte1 c hc
  unfold s1
  rw [e1, show (6148914691236517205 : Int) = ((6148914691236517205 : Nat) : Int) from rfl, and_u64 _ _ (by omega) (by decide), and_u64 _ _ (by omega) (by decide),
    and_bytes _ _ _ 0x55 (by omega) (by omega) _ (by decide) (by decide) (by omega), and_bytes _ _ _ 0x55 ha hb _ (by decide) (by decide) hc]
  have ea : (a / 2 + 128 * (b % 2)) &&& 0x55 = a / 2 &&& 0x55 := by
    rcases hb2 with h | h <;> rw [h]
    · rfl
    · exact ka.1.symm
  have eb : (b / 2 + 128 * (c % 2)) &&& 0x55 = b / 2 &&& 0x55 := by
    rcases hc2 with h | h <;> rw [h]
    · rfl
    · exact kb.1.symm
  rw [ea, eb]
  have ja := ka.2; have jb := kb.2; have jc := kc.2
  unfold t1 at *
  rw [show (((a / 2 &&& 85) + 256 * (b / 2 &&& 85) + 65536 * (c / 2 &&& 85) : Nat) : Int) + (((a &&& 85) + 256 * (b &&& 85) + 65536 * (c &&& 85) : Nat) : Int) = ((((a / 2 &&& 85) + (a &&& 85)) + 256 * ((b / 2 &&& 85) + (b &&& 85)) + 65536 * ((c / 2 &&& 85) + (c &&& 85)) : Nat) : Int) from by omega]
  exact wrap_u64 _ (by omega)
theorem s2_bytes (a b c : Nat) (ha : a < 171) (hb : b < 171) (hc : c < 171) : s2 ((a + 256 * b + 65536 * c : Nat) : Int) = ((t2 a + 256 * t2 b + 65536 * t2 c : Nat) : Int) := by
  have e1 : ((a + 256 * b + 65536 * c : Nat) : Int) / 4 = (((a / 4 + 64 * (b % 4)) + 256 * (b / 4 + 64 * (c % 4)) + 65536 * (c / 4) : Nat) : Int) := by omega
  have ka := byte2 a ha (b % 4) (by omega)
  have kb := byte2 b hb (c % 4) (by omega)
  have kc := byte2 c hc 0 (by omega)
  unfold s2
  rw [e1, show (3689348814741910323 : Int) = ((3689348814741910323 : Nat) : Int) from rfl, and_u64 _ _ (by omega) (by decide), and_u64 _ _ (by omega) (by decide),
    and_bytes _ _ _ 0x33 (by omega) (by omega) _ (by decide) (by decide) (by omega), and_bytes _ _ _ 0x33 (by omega) (by omega) _ (by decide) (by decide) (by omega), ← ka.1, ← kb.1]
  have ja := ka.2.1; have jb := kb.2.1; have jc := kc.2.1
  clear ka kb kc e1
  unfold t2 at *
  rw [show (((a / 4 &&& 51) + 256 * (b / 4 &&& 51) + 65536 * (c / 4 &&& 51) : Nat) : Int) + (((a &&& 51) + 256 * (b &&& 51) + 65536 * (c &&& 51) : Nat) : Int) = ((((a / 4 &&& 51) + (a &&& 51)) + 256 * ((b / 4 &&& 51) + (b &&& 51)) + 65536 * ((c / 4 &&& 51) + (c &&& 51)) : Nat) : Int) from by omega]
  exact wrap_u64 _ (by omega)
theorem s3_bytes (a b c : Nat) (ha : a < 103) (hb : b < 103) (hc : c < 103) (hb6 : b % 16 < 7) (hc6 : c % 16 < 7) : s3 ((a + 256 * b + 65536 * c : Nat) : Int) = ((t3 a + 256 * t3 b + 65536 * t3 c : Nat) : Int) := by
  have e1 : ((a + 256 * b + 65536 * c : Nat) : Int) / 16 + ((a + 256 * b + 65536 * c : Nat) : Int) = (((a / 16 + 16 * (b % 16) + a) + 256 * (b / 16 + 16 * (c % 16) + b) + 65536 * (c / 16 + c) : Nat) : Int) := by omega
  have ka := byte3 a ha (b % 16) hb6
  have kb := byte3 b hb (c % 16) hc6
  have kc := byte3 c hc 0 (by omega)
  unfold s3
  rw [e1, wrap_u64 _ (by omega), show (1085102592571150095 : Int) = ((1085102592571150095 : Nat) : Int) from rfl, and_u64 _ _ (by omega) (by decide),
    and_bytes _ _ _ 0x0f (by omega) (by omega) _ (by decide) (by decide) (by omega), ka.1, kb.1, show c / 16 + c = c / 16 + 16 * 0 + c from by omega, kc.1]
def pcS (x : Int) : Int := bits .and .i64 (wrap64 (s6 (s5 (s4 (s3 (s2 (s1 x))))))) 127
def pc3 (n : Nat) : Nat := t3 (t2 (t1 (n % 256))) + t3 (t2 (t1 (n / 256 % 256))) + t3 (t2 (t1 (n / 65536)))
theorem pcS_eq (n : Nat) (h : n < 16777216) : pcS (n : Int) = (pc3 n : Nat) := by
  unfold pcS pc3
  obtain ⟨a, ha⟩ : ∃ a, a = n % 256 := ⟨_, rfl⟩
  obtain ⟨b, hb⟩ : ∃ b, b = n / 256 % 256 := ⟨_, rfl⟩
  obtain ⟨c, hc⟩ : ∃ c, c = n / 65536 := ⟨_, rfl⟩
  rw [← ha, ← hb, ← hc]
  have e : n = a + 256 * b + 65536 * c := by omega
  have la : a < 256 := by omega
  have lb : b < 256 := by omega
  have lc : c < 256 := by omega
  clear ha hb hc h
  subst e
  have a1 := (byte1 a la).2; have b1 := (byte1 b lb).2; have c1 := (byte1 c lc).2
  have a2 := (byte2 _ a1 0 (by omega)).2; have b2 := (byte2 _ b1 0 (by omega)).2; have c2 := (byte2 _ c1 0 (by omega)).2
  have a3 := byte_pc a la; have b3 := byte_pc b lb; have c3 := byte_pc c lc
  rw [s1_bytes a b c la lb lc, s2_bytes _ _ _ a1 b1 c1, s3_bytes _ _ _ a2.1 b2.1 c2.1 b2.2 c2.2]
  generalize t3 (t2 (t1 a)) = x at *
  generalize t3 (t2 (t1 b)) = y at *
  generalize t3 (t2 (t1 c)) = z at *
  clear a1 b1 c1 a2 b2 c2 la lb lc
  have f4 : s4 ((x + 256 * y + 65536 * z : Nat) : Int) = ((x + y + 256 * (y + z) + 65536 * z : Nat) : Int) := by
    unfold s4
    rw [show ((x + 256 * y + 65536 * z : Nat) : Int) + ((x + 256 * y + 65536 * z : Nat) : Int) / 256 = ((x + y + 256 * (y + z) + 65536 * z : Nat) : Int) from by omega]
    exact wrap_u64 _ (by omega)
  have f5 : s5 ((x + y + 256 * (y + z) + 65536 * z : Nat) : Int) = ((x + y + z + 256 * (y + z) + 65536 * z : Nat) : Int) := by
    unfold s5
    rw [show ((x + y + 256 * (y + z) + 65536 * z : Nat) : Int) + ((x + y + 256 * (y + z) + 65536 * z : Nat) : Int) / 65536 = ((x + y + z + 256 * (y + z) + 65536 * z : Nat) : Int) from by omega]
    exact wrap_u64 _ (by omega)
  have f6 : s6 ((x + y + z + 256 * (y + z) + 65536 * z : Nat) : Int) = ((x + y + z + 256 * (y + z) + 65536 * z : Nat) : Int) := by
    unfold s6
    rw [show ((x + y + z + 256 * (y + z) + 65536 * z : Nat) : Int) + ((x + y + z + 256 * (y + z) + 65536 * z : Nat) : Int) / 4294967296 = ((x + y + z + 256 * (y + z) + 65536 * z : Nat) : Int) from by omega]
    exact wrap_u64 _ (by omega)
  rw [f4, f5, f6, show wrap64 ((x + y + z + 256 * (y + z) + 65536 * z : Nat) : Int) = ((x + y + z + 256 * (y + z) + 65536 * z : Nat) : Int) from by unfold wrap64; omega, show (127 : Int) = ((127 : Nat) : Int) from rfl, and_i64 _ _ (by omega) (by decide)]
  rw [show (127 : Nat) = 2 ^ 7 - 1 from rfl, Nat.and_two_pow_sub_one_eq_mod]
  omega
theorem pc_zero : pc 0 = 0 := by rw [pc, if_pos rfl]
theorem pc_one (m : Nat) : pc m = m % 2 + pc (m / 2) := by
  by_cases h0 : m = 0
  · subst h0; rw [pc_zero]
  · rw [pc, if_neg h0]
theorem pc_byte_step (n h : Nat) (hn : n < 256) : pc (256 * h + n) = pc n + pc h := by
  have key : ∀ k n, n < 2 ^ k → ∀ h, pc (2 ^ k * h + n) = pc n + pc h := by
    intro k
    induction k with
    | zero => intro n hn h; have : n = 0 := by simpa using hn
              subst this; rw [pc_zero]; simp
    | succ k ih =>
      intro n hn h
      rw [pc_one, pc_one n]
      have e1 : (2 ^ (k + 1) * h + n) % 2 = n % 2 := by rw [Nat.pow_succ, Nat.mul_comm (2 ^ k) 2, Nat.mul_assoc]; omega
      have e2 : (2 ^ (k + 1) * h + n) / 2 = 2 ^ k * h + n / 2 := by rw [Nat.pow_succ, Nat.mul_comm (2 ^ k) 2, Nat.mul_assoc]; omega
      rw [e1, e2, ih (n / 2) (by rw [Nat.pow_succ] at hn; omega) h]
      omega
  exact key 8 n hn h
theorem pc_256 : ∀ a < 256, t3 (t2 (t1 a)) = pc a := by
  have e : ∀ a, a < 256 → pc a = a % 2 + (a / 2 % 2 + (a / 4 % 2 + (a / 8 % 2 + (a / 16 % 2 + (a / 32 % 2 + (a / 64 % 2 + a / 128 % 2)))))) := by
    intro a ha
    rw [pc_one a, pc_one (a / 2), pc_one (a / 2 / 2), pc_one (a / 2 / 2 / 2), pc_one (a / 2 / 2 / 2 / 2), pc_one (a / 2 / 2 / 2 / 2 / 2), pc_one (a / 2 / 2 / 2 / 2 / 2 / 2), pc_one (a / 2 / 2 / 2 / 2 / 2 / 2 / 2)]
    rw [show a / 2 / 2 / 2 / 2 / 2 / 2 / 2 / 2 = 0 from by omega, pc_zero]
    omega
  have d : ∀ a < 256, t3 (t2 (t1 a)) = a % 2 + (a / 2 % 2 + (a / 4 % 2 + (a / 8 % 2 + (a / 16 % 2 + (a / 32 % 2 + (a / 64 % 2 + a / 128 % 2)))))) := by
    set_option maxRecDepth 100000 in decide
  intro a ha
  rw [d a ha, e a ha]
theorem pc3_eq (n : Nat) (h : n < 16777216) : pc3 n = pc n := by
  unfold pc3
  rw [pc_256 _ (by omega), pc_256 _ (by omega), pc_256 _ (by omega)]
  have e1 := pc_byte_step (n % 256) (n / 256) (by omega)
  have e2 := pc_byte_step (n / 256 % 256) (n / 65536) (by omega)
  rw [show 256 * (n / 256) + n % 256 = n from by omega] at e1
  rw [show 256 * (n / 65536) + n / 256 % 256 = n / 256 from by omega] at e2
  omega
theorem pcS_pc (n : Nat) (h : n < 16777216) : pcS (n : Int) = (pc n : Nat) := by rw [pcS_eq n h, pc3_eq n h]
end Go.Proofs.Ytcgfjacidjebaaa
