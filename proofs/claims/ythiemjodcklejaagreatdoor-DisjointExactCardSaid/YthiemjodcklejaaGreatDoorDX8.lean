import Derived.WalkKit
import Derived.WalkSpells
import Derived.WalkLawsBesides
import Derived.Deep.QuietTactic
import Derived.BigQuiet
import Derived.Lib.Hide
import Derived.Shelf.Abstract
import Derived.Deep.RegionWith
import Derived.Laws.AppendOwnNone
import Derived.Lib.AppendZerosOnto
import Derived.Lib.SliceRun
import Derived.Lib.SlicesCompact
import Derived.Shelf.SlSortCmp.NoneTotal
import Derived.Maps.OwnOps
import Derived.Maps.OwnSet
import Derived.Maps.Views
import Derived.Deep.MidRow
import Derived.Deep.RegionHeld3
import Derived.Deep.AppendLies
import Derived.Deep.RegionLaw
import Derived.IntWalk
import Derived.StillTailTactics
import Derived.RegionTactic
import Derived.BigRegion
import Derived.ChangeAlike
import Derived.Sort.LotD2
import Derived.Sort.LotA
import Derived.Shelf.SlSortCmp.PdqK
import Derived.Deep.DeepCutAuto
import Derived.Lib.ItoaNum
import Derived.Deep.LoopGhost
import Derived.ProofKit
import Derived.OpenShut
import Derived.SizedLaws
import Derived.Lib.SmallJoins
import Derived.Deep.Slices
import Derived.Deep.Fields
import Derived.Deep.Strs
import Derived.Carry
import Derived.Lib.BitFns
import Derived.Deep.CutBlock
import Derived.Test.YthiemjodcklejaaGreatDoorDX7
/-
  Walk: faultlineref01.Bits.
-/
namespace Go.Proofs.YthiemjodcklejaaGreatDoor
open Go.RowKit

theorem and_u32 (a b : Nat) (ha : a < 4294967296) (hb : b < 4294967296) : bits .and .u32 (a : Int) (b : Int) = ((a &&& b : Nat) : Int) := by
  have h : (BitVec.ofInt 32 (a : Int) &&& BitVec.ofInt 32 (b : Int)).toNat = a &&& b := by rw [BitVec.toNat_and, ofNat_toNat32 a ha, ofNat_toNat32 b hb]
  show IntKind.u32.wrap (((BitVec.ofInt 32 (a : Int) &&& BitVec.ofInt 32 (b : Int)).toNat : Nat) : Int) = _
  rw [h, IntKind.wrap_u32]
  have := Nat.and_le_left (n := a) (m := b)
  omega
/-- The number of bits. -/
def BL (n v : Nat) : Prop := v < 2 ^ n ∧ (n = 0 ∨ 2 ^ (n - 1) ≤ v)
theorem BL.zero : BL 0 0 := ⟨by simp, .inl rfl⟩
theorem BL.iff0 {n v : Nat} (h : BL n v) : n = 0 ↔ v = 0 := by
  constructor
  · intro e; subst e; have := h.1; simpa using this
  · intro e; subst e
    rcases h.2 with h2 | h2
    · exact h2
    · have := Nat.two_pow_pos (n - 1); omega
theorem BL.iff1 {n v : Nat} (h : BL n v) : n = 1 ↔ v = 1 := by
  constructor
  · intro e; subst e
    have h1 := h.1
    rcases h.2 with h2 | h2
    · omega
    · simp at h1 h2; omega
  · intro e; subst e
    have h0 : n ≠ 0 := fun e => by have := h.iff0.1 e; omega
    rcases Nat.lt_or_ge 1 n with h1 | h1
    · exfalso
      rcases h.2 with h2 | h2
      · exact h0 h2
      · have : 2 ^ 1 ≤ 2 ^ (n - 1) := Nat.pow_le_pow_right (by omega) (by omega)
        omega
    · omega
/-- One more bit, above all others. -/
theorem BL.step {n v p : Nat} {b : Nat} (h : BL n v) (hb : b = 0 ∨ b = 1) (hv : v < 2 ^ p) : BL (if b = 1 then p + 1 else n) (v + b * 2 ^ p) := by
  rcases hb with rfl | rfl
  · simpa using h
  · rw [if_pos rfl]
    refine ⟨by rw [Nat.pow_succ]; omega, .inr (by rw [Nat.add_sub_cancel]; omega)⟩
theorem bit_step (x k : Nat) : x % 2 ^ (k + 1) = x % 2 ^ k + (x / 2 ^ k % 2) * 2 ^ k := by
  rw [Nat.pow_succ, Nat.mod_mul, Nat.mul_comm (2 ^ k)]
set_option maxRecDepth 100000 in
set_option maxHeartbeats 2000000 in
theorem refbits_any (va : Value) (xs : List Nat) (w : World) (ha : WdsAt w va xs) :
    Calls Tryz.prog 188 #[va] w fun e w' => (∃ k : Nat, e = .returned (.int .i64 k) ∧ BL k (nv xs)) ∧ w' = w := by
  have HA := Lib.hid ha
  obtain ⟨a0, c0, rfl⟩ := ha.shape
  obtain ⟨n, hn⟩ : ∃ n, n = xs.length := ⟨_, rfl⟩
  have hn9 : n ≤ 1099511627776 := by rw [hn]; exact ha.len
  rw [← hn] at HA ⊢
  have HN := Lib.hid hn
  clear ha hn
  go_enter Tryz.func188, Tryz.ntmps188
  go_wp2_with fail
  go_loopg [3, 9] n (fun kx s3 s9 wr => ∃ i z : Nat, s3 = .int .i64 z ∧ s9 = .int .i64 i ∧ i ≤ n ∧ n - i ≤ kx ∧ z ≤ 32 * i ∧ Hid (BL z (nv (xs.take i))) ∧ w = wr)
  case atStart => exact ⟨0, 0, rfl, rfl, Nat.zero_le _, by omega, by omega, Lib.hid (by simpa [nv_nil] using BL.zero), rfl⟩
  case round =>
    obtain ⟨i, z, rfl, rfl, hi, hkx, hz, HB, rfl⟩ := hrel
    by_cases hlt : i < n
    · obtain ⟨b, o, rfl, hc⟩ := HA.out.get i (by have := HN.out; omega)
      have hx9 := HA.out.wd.getD i
      obtain ⟨x, hx⟩ : ∃ x, x = xs.getD i 0 := ⟨_, rfl⟩
      rw [← hx] at hc hx9
      have HX := Lib.hid hx
      have hin : (i : Int) < (n : Int) := by omega
      have HV : Hid (nv (xs.take i) < 2 ^ (32 * i)) := Lib.hid (by
        have h := nv_lt (HA.out.wd.take i)
        rw [List.length_take, Nat.min_eq_left (by have := HN.out; omega), show (4294967296 : Nat) = 2 ^ 32 by rfl, ← Nat.pow_mul] at h
        exact h)
      clear hx
      go_wp2_with fail
      go_loopg [3, 14] 32 (fun kx s3 s14 wq => ∃ k y : Nat, s3 = .int .i64 y ∧ s14 = .int .i64 k ∧ k ≤ 32 ∧ 32 - k ≤ kx ∧ y ≤ 32 * i + k ∧ Hid (BL y (nv (xs.take i) + (x % 2 ^ k) * 2 ^ (32 * i))) ∧ w = wq)
      case atStart => exact ⟨0, z, rfl, rfl, by omega, by omega, by omega, Lib.hid (by rw [Nat.pow_zero, Nat.mod_one, Nat.zero_mul, Nat.add_zero]; exact HB.out), rfl⟩
      case round =>
        obtain ⟨k, y, rfl, rfl, hk, hkx2, hy, HY, rfl⟩ := hrel
        by_cases hlt2 : k < 32
        · obtain ⟨u, hu⟩ : ∃ u, u = x / 2 ^ k := ⟨_, rfl⟩
          have hu9 : u < 4294967296 := by have := Nat.div_le_self x (2 ^ k); omega
          obtain ⟨d, hd⟩ : ∃ d, d = u % 2 := ⟨_, rfl⟩
          have eu : (x : Int) / 2 ^ k = (u : Int) := by rw [hu]; simp
          have ed : bits .and .u32 (u : Int) 1 = (d : Int) := by
            have h := and_u32 u 1 hu9 (by omega)
            rw [Nat.and_one_is_mod, ← hd] at h
            simpa using h
          have HNX : Hid (BL (if d = 1 then 32 * i + k + 1 else y) (nv (xs.take i) + (x % 2 ^ (k + 1)) * 2 ^ (32 * i))) := Lib.hid (by
            have hv : nv (xs.take i) + (x % 2 ^ k) * 2 ^ (32 * i) < 2 ^ (32 * i + k) := by
              have h1 : (x % 2 ^ k + 1) * 2 ^ (32 * i) ≤ 2 ^ k * 2 ^ (32 * i) := Nat.mul_le_mul_right _ (Nat.mod_lt _ (Nat.two_pow_pos k))
              rw [← Nat.pow_add, Nat.add_comm k, Nat.add_mul, Nat.one_mul] at h1
              have := HV.out
              omega
            have h := HY.out.step (b := d) (by omega) hv
            rw [bit_step, ← hu, ← hd, Nat.add_mul, Nat.mul_assoc d, ← Nat.pow_add, Nat.add_comm k, ← Nat.add_assoc]
            exact h)
          have hk32 : (k : Int) < 32 := by omega
          have hk0 : ¬ (k : Int) < 0 := by omega
          rcases (by omega : d = 0 ∨ d = 1) with h | h
          · subst h
            clear hu hd
            go_wp2_with fail
            go_roundg (32 - (k + 1))
            case measure => omega
            case rel => exact ⟨k + 1, y, rfl, by go_num, by omega, Nat.le_refl _, by omega, Lib.hid (by simpa using HNX.out), rfl⟩
          · subst h
            obtain ⟨t, ht⟩ : ∃ t, t = 32 * i := ⟨_, rfl⟩
            have et : 32 * (i : Int) = (t : Int) := by omega
            have ht9 : t ≤ 35184372088832 := by omega
            obtain ⟨t1, ht1⟩ : ∃ t1, t1 = t + k := ⟨_, rfl⟩
            have et1 : (t : Int) + (k : Int) = (t1 : Int) := by omega
            obtain ⟨t2, ht2⟩ : ∃ t2, t2 = t1 + 1 := ⟨_, rfl⟩
            have et2 : (t1 : Int) + 1 = (t2 : Int) := by omega
            have ht19 : t1 ≤ 35184372088864 := by omega
            have ht29 : t2 ≤ 35184372088865 := by omega
            have HT2 : Hid (t2 = 32 * i + k + 1) := Lib.hid (by omega)
            clear hu hd ht ht1 ht2
            go_wp2_with fail
            go_roundg (32 - (k + 1))
            case measure => omega
            case rel => exact ⟨k + 1, t2, rfl, by go_num, by omega, Nat.le_refl _, by have := HT2.out; omega, Lib.hid (by have h := HNX.out; simp only [if_true] at h; rw [← HT2.out] at h; exact h), rfl⟩
        · have hke : k = 32 := by omega
          have HNX : Hid (BL y (nv (xs.take (i + 1)))) := Lib.hid (by
            have h := HY.out
            rw [hke, show (2 : Nat) ^ 32 = 4294967296 by rfl, Nat.mod_eq_of_lt hx9, HX.out] at h
            rw [nv_take_succ, show (4294967296 : Nat) = 2 ^ 32 by rfl, ← Nat.pow_mul]
            exact h)
          have hy2 : y ≤ 32 * (i + 1) := by omega
          clear hke
          go_wp2_with fail
          go_roundg (n - (i + 1))
          case measure => omega
          case rel => exact ⟨i + 1, y, rfl, by go_num, by omega, Nat.le_refl _, hy2, HNX, rfl⟩
    · have hie : i = n := by omega
      have HF : Hid (BL z (nv xs)) := Lib.hid (by have h := HB.out; rw [hie, HN.out, nv_take_all _ _ (Nat.le_refl _)] at h; exact h)
      clear hie
      go_wp2_with fail
      go_ret
      exact ⟨⟨z, rfl, HF.out⟩, rfl⟩
end Go.Proofs.YthiemjodcklejaaGreatDoor

/-
  Walks: faultlineref01.up, down.
-/
namespace Go.Proofs.YthiemjodcklejaaGreatDoor
open Go.RowKit

theorem or_shift {c x s : Nat} (hc : c < 2 ^ s) : (c ||| x * 2 ^ s) = c + x * 2 ^ s := by
  rw [Nat.or_comm, Nat.mul_comm, ← Nat.two_pow_add_eq_or_of_lt hc]; omega
set_option maxRecDepth 100000 in
set_option maxHeartbeats 2000000 in
theorem refup_any (va : Value) (xs : List Nat) (s : Nat) (w : World) (ha : WdsAt w va xs) (hs : s < 32) (hla : xs.length ≤ 549755813888) :
    Calls Tryz.prog 263 #[va, .int .i64 s] w fun e w' => (∃ v', e = .returned v' ∧ WdsAt w' v' (nw (nv xs * 2 ^ s))) ∧ Kept w w' := by
  have HA := Lib.hid ha
  obtain ⟨a0, c0, rfl⟩ := ha.shape
  obtain ⟨l0, h0⟩ : ∃ l0, l0 = xs.length := ⟨_, rfl⟩
  rw [← h0] at HA hla ⊢
  have H0 := Lib.hid h0
  have hs0 : ¬ (s : Int) < 0 := by omega
  clear ha h0
  go_enter Tryz.func263, Tryz.ntmps263
  go_wp2_with fail
  go_loopg [5, 6, 11] l0 (fun kx s5 s6 s11 wr => ∃ (i c : Nat) (L : List Nat), s6 = .int .u64 c ∧ s11 = .int .i64 i ∧ i ≤ l0 ∧ l0 - i ≤ kx ∧ c < 4294967296 ∧ Hid (c < 2 ^ s) ∧ Hid (OwnWds wr w.heap.size s5 L) ∧ Hid (L.length = i) ∧ Hid (nv L + c * 4294967296 ^ i = nv (xs.take i) * 2 ^ s) ∧ Hid (Kept w wr))
  case atStart => exact ⟨0, 0, [], rfl, rfl, Nat.zero_le _, by omega, by omega, Lib.hid (Nat.two_pow_pos s), Lib.hid (OwnWds.nil _ _), Lib.hid rfl, Lib.hid (by simp [nv_nil]), Lib.hid (Kept.refl _)⟩
  case round =>
    obtain ⟨i, c, L, rfl, rfl, hi, hkx, hc, HC, HO, HL, HI, HK⟩ := hrel
    have hi9 : i < 1099511627776 := by omega
    have HI9 : Hid (L.length < 1099511627776) := Lib.hid (by rw [HL.out]; exact hi9)
    have HSZ := Lib.hid HK.out.size
    by_cases hlt : i < l0
    · obtain ⟨b, o, rfl, hcx⟩ := (HA.out.kept HK.out).get i (by have := H0.out; omega)
      have hx := HA.out.wd.getD i
      obtain ⟨x, hxx⟩ : ∃ x, x = xs.getD i 0 := ⟨_, rfl⟩
      rw [← hxx] at hcx hx
      obtain ⟨y, hy⟩ : ∃ y, y = x * 2 ^ s := ⟨_, rfl⟩
      have hy9 : y < 18446744073709551616 := by rw [hy]; exact shl_word x s hx hs
      have ey : (x : Int) * 2 ^ s = (y : Int) := by rw [hy]; simp
      obtain ⟨t, ht⟩ : ∃ t, t = c + y := ⟨_, rfl⟩
      have eo : bits .or .u64 (c : Int) (y : Int) = (t : Int) := by
        have h := or_u64 c y (by omega) hy9
        rw [hy, or_shift HC.out, ← hy, ← ht] at h
        exact h
      have htt : t < 2 ^ s * 4294967296 := by
        have h1 : (x + 1) * 2 ^ s ≤ 4294967296 * 2 ^ s := Nat.mul_le_mul_right _ hx
        rw [Nat.add_mul, Nat.one_mul, Nat.mul_comm 4294967296] at h1
        have := HC.out
        omega
      have ht9 : t < 18446744073709551616 := by
        have h2 : 2 ^ s ≤ 2 ^ 31 := Nat.pow_le_pow_right (by omega) (by omega)
        have h3 : 2 ^ s * 4294967296 ≤ 2 ^ 31 * 4294967296 := Nat.mul_le_mul_right _ h2
        omega
      obtain ⟨r, hr⟩ : ∃ r, r = t % 4294967296 := ⟨_, rfl⟩
      obtain ⟨q, hq⟩ : ∃ q, q = t / 4294967296 := ⟨_, rfl⟩
      have hr9 : r < 4294967296 := by omega
      have hq9 : q < 4294967296 := by omega
      have HQ : Hid (q < 2 ^ s) := Lib.hid (by rw [hq]; exact Nat.div_lt_of_lt_mul (by rw [Nat.mul_comm]; exact htt))
      have e6 : (t : Int) / 4294967296 = (q : Int) := by omega
      have e5 : IntKind.u32.wrap (t : Int) = (r : Int) := by rw [IntKind.wrap_u32]; omega
      have HNX : Hid (nv (L ++ [r]) + q * 4294967296 ^ (i + 1) = nv (xs.take (i + 1)) * 2 ^ s) := Lib.hid (by
        have h1 := mul_divmod t (4294967296 ^ i)
        rw [← hr, ← hq] at h1
        have h2 := HI.out
        rw [nv_push HL.out, nv_take_succ, ← hxx, Nat.add_mul, ← h2, Nat.pow_succ, Nat.mul_comm (4294967296 ^ i) 4294967296, Nat.add_assoc, h1, ht, Nat.add_mul, hy, Nat.mul_assoc x, Nat.mul_comm (2 ^ s), ← Nat.mul_assoc]
        omega)
      have hin : (i : Int) < (l0 : Int) := by omega
      clear hxx hy ht htt hr hq
      go_wp2_with (at_builtin; refine app_wd rfl _ _ rfl w.heap.size _ L rfl (HO.out.kept ((Kept.refl _).alloc _)) _ r rfl (by simp) hr9 HI9.out (by have := HSZ.out; simp; omega) ?_; intro v7 w7 h7 hb7; have O7 := Lib.hid h7; have HB7 := Lib.hid hb7; clear h7 hb7)
      go_roundg (l0 - (i + 1))
      case measure => omega
      case rel => exact ⟨i + 1, q, L ++ [r], rfl, by go_num, by omega, Nat.le_refl _, hq9, HQ, O7, Lib.hid (by rw [List.length_append, HL.out]; rfl), HNX, Lib.hid ((HK.out.alloc _).app HB7.out)⟩
    · have hie : i = l0 := by omega
      have HV : Hid (nv (L ++ [c]) = nv xs * 2 ^ s) := Lib.hid (by
        have h := HI.out
        rw [nv_push HL.out, h, hie, H0.out, nv_take_all _ _ (Nat.le_refl _)])
      have e5 : IntKind.u32.wrap (c : Int) = (c : Int) := by rw [IntKind.wrap_u32]; omega
      have HT : Hid (∀ W v7, OwnWds W w.heap.size v7 (L ++ [c]) → Calls Tryz.prog 241 #[v7] W fun e w' => (∃ v', e = .returned v' ∧ WdsAt w' v' (nw (nv xs * 2 ^ s))) ∧ Kept W w') := Lib.hid fun W v7 h7 => by
        have h := rtrim_any v7 _ W h7.at
        rw [HV.out] at h
        exact h.mono fun _ _ ⟨⟨v', h1, h2⟩, h3⟩ => ⟨⟨v', h1, h2.at⟩, h3⟩
      clear hie
      go_wp2_with (first
        | (at_builtin; refine app_wd rfl _ _ rfl w.heap.size _ L rfl (HO.out.kept ((Kept.refl _).alloc _)) _ c rfl (by simp) hc HI9.out (by have := HSZ.out; simp; omega) ?_; intro v7 w7 h7 hb7; have O7 := Lib.hid h7; have HB7 := Lib.hid hb7; clear h7 hb7)
        | (go_at_call 241; (with_reducible refine (HT.out _ _ O7.out).mono ?_); rintro e w8 ⟨⟨v8, rfl, hv8⟩, hk8⟩; have HV8 := Lib.hid hv8; have HK8 := Lib.hid hk8; clear hv8 hk8))
      go_ret
      exact ⟨⟨_, rfl, HV8.out⟩, ((HK.out.alloc _).app HB7.out).trans HK8.out⟩
set_option maxRecDepth 100000 in
set_option maxHeartbeats 2000000 in
theorem refdown_any (va : Value) (xs : List Nat) (n : Nat) (w : World) (ha : WdsAt w va xs) (hn : n < 32) :
    Calls Tryz.prog 264 #[va, .int .i64 n] w fun e w' => (∃ v', e = .returned v' ∧ WdsAt w' v' (nw (nv xs / 2 ^ n))) ∧ Kept w w' := by
  have HW := Lib.hid (fun W (hk : Kept w W) (i : Nat) => rword_any va xs i W (ha.kept hk))
  have HA := Lib.hid ha
  obtain ⟨a0, c0, rfl⟩ := ha.shape
  obtain ⟨l0, h0⟩ : ∃ l0, l0 = xs.length := ⟨_, rfl⟩
  have hl9 : l0 ≤ 1099511627776 := by rw [h0]; exact ha.len
  rw [← h0] at HW ⊢
  have H0 := Lib.hid h0
  have hn0 : ¬ (n : Int) < 0 := by omega
  clear ha h0
  go_enter Tryz.func264, Tryz.ntmps264
  go_wp2_with fail
  go_loopg [5, 9] l0 (fun kx s5 s9 wr => ∃ (i : Nat) (L : List Nat), s9 = .int .i64 i ∧ i ≤ l0 ∧ l0 - i ≤ kx ∧ Hid (OwnWds wr w.heap.size s5 L) ∧ Hid (L.length = i) ∧ Hid (nv L = nv xs / 2 ^ n % 4294967296 ^ i) ∧ Hid (Kept w wr))
  case atStart => exact ⟨0, [], rfl, Nat.zero_le _, by omega, Lib.hid (OwnWds.nil _ _), Lib.hid rfl, Lib.hid (by simp [nv_nil, Nat.mod_one]), Lib.hid (Kept.refl _)⟩
  case round =>
    obtain ⟨i, L, rfl, hi, hkx, HO, HL, HI, HK⟩ := hrel
    by_cases hlt : i < l0
    · obtain ⟨t, u, h1, h2, h3, h4, h5⟩ := right_word hn (by have := H0.out; omega : i < xs.length) HA.out.wd
      have hx := HA.out.wd.getD i
      have hx1 := HA.out.wd.getD (i + 1)
      have HX := Lib.hid (HW.out wr HK.out i)
      have HX1 := Lib.hid (HW.out wr HK.out (i + 1))
      generalize xs.getD i 0 = x at *
      generalize xs.getD (i + 1) 0 = x1 at *
      obtain ⟨r, hr⟩ : ∃ r, r = u % 4294967296 := ⟨_, rfl⟩
      have hr9 : r < 4294967296 := by omega
      have e5 : IntKind.u32.wrap (u : Int) = (r : Int) := by rw [IntKind.wrap_u32]; omega
      have HS : Hid (nv (L ++ [r]) = nv xs / 2 ^ n % 4294967296 ^ (i + 1)) := Lib.hid (by rw [nv_push HL.out, HI.out, hr, h5, mod_pow_succ])
      have hkn : (i : Int) < (l0 : Int) := by omega
      have HI9 : Hid (L.length < 1099511627776) := Lib.hid (by rw [HL.out]; omega)
      have HSZ := Lib.hid HK.out.size
      clear h5 hr
      go_wp2_with (first
        | (go_at_call 240; (with_reducible refine HX.out.mono ?_); rintro e w2 ⟨rfl, rfl⟩)
        | (go_at_call 240; refine HX1.out.mono ?_; rintro e w2 ⟨rfl, rfl⟩)
        | (at_builtin; refine app_wd rfl _ _ rfl w.heap.size _ L rfl (HO.out.kept ((Kept.refl _).alloc _)) _ r rfl (by simp) hr9 HI9.out (by have := HSZ.out; simp; omega) ?_; intro v7 w7 h7 hb7; have O7 := Lib.hid h7; have HB7 := Lib.hid hb7; clear h7 hb7))
      go_roundg (l0 - (i + 1))
      case measure => omega
      case rel => exact ⟨i + 1, L ++ [r], by go_num, by omega, Nat.le_refl _, O7, Lib.hid (by rw [List.length_append, HL.out]; rfl), HS, Lib.hid ((HK.out.alloc _).app HB7.out)⟩
    · have hie : i = l0 := by omega
      have HV : Hid (nv L = nv xs / 2 ^ n) := Lib.hid (by
        rw [HI.out]
        refine Nat.mod_eq_of_lt (Nat.lt_of_le_of_lt (Nat.div_le_self _ _) ?_)
        rw [hie, H0.out]; exact nv_lt HA.out.wd)
      have HT := Lib.hid (rtrim_any _ _ _ HO.out.at)
      clear hie
      go_wp2_with fail
      refine HT.out.mono ?_
      rintro e w2 ⟨⟨v2, rfl, hv2⟩, hk2⟩
      have HV2 := Lib.hid hv2
      have HK2 := Lib.hid (HK.out.trans hk2)
      clear hv2 hk2
      go_wp2
      go_ret
      exact ⟨⟨_, rfl, by rw [← HV.out]; exact HV2.out.at⟩, HK2.out⟩
end Go.Proofs.YthiemjodcklejaaGreatDoor

/-
  Plain: the reference's long division; the highest bit of a word.
-/
namespace Go.Proofs.YthiemjodcklejaaGreatDoor
open Go.RowKit

theorem and_bit31 (y : Nat) (hy : y < 4294967296) : (y &&& 2 ^ 31) = if 2147483648 ≤ y then 2147483648 else 0 := by
  have hb : y.testBit 31 = decide (2147483648 ≤ y) := by
    rw [Nat.testBit_eq_decide_div_mod_eq, show (2 : Nat) ^ 31 = 2147483648 by rfl]
    exact decide_eq_decide.2 (by omega)
  by_cases h : 2147483648 ≤ y
  · rw [if_pos h, show (2147483648 : Nat) = 2 ^ 31 by rfl]
    refine Nat.eq_of_testBit_eq fun i => ?_
    rw [Nat.testBit_and, Nat.testBit_two_pow]
    by_cases e : 31 = i
    · subst e; rw [hb]; simp [h]
    · simp [e]
  · rw [if_neg h]
    refine Nat.eq_of_testBit_eq fun i => ?_
    rw [Nat.testBit_and, Nat.testBit_two_pow, Nat.zero_testBit]
    by_cases e : 31 = i
    · subst e; rw [hb]; simp [h]
    · simp [e]
theorem and_top (y : Nat) (hy : y < 4294967296) : bits .and .u32 (y : Int) 2147483648 = if 2147483648 ≤ y then 2147483648 else 0 := by
  have h := and_u32 y (2 ^ 31) hy (by omega)
  rw [and_bit31 y hy] at h
  by_cases h2 : 2147483648 ≤ y
  · rw [if_pos h2] at h ⊢
    simpa using h
  · rw [if_neg h2] at h ⊢
    simpa using h
/-- The shifted divisor has as many words, and its highest bit is 1. -/
theorem norm_word {B s m x N : Nat} (hl : (nw B).length = m + 1) (hx : x = (nw B).getD m 0) (hs : s < 32) (h1 : 2147483648 ≤ x * 2 ^ s) (h2 : x * 2 ^ s < 4294967296) (hN : N = B * 2 ^ s) : (nw N).length = m + 1 ∧ 2147483648 ≤ (nw N).getD m 0 ∧ N < 4294967296 ^ (m + 1) := by
  obtain ⟨_, h3, h4⟩ := top_word (nw_wd B) (m := m) hl
  rw [nv_nw, ← hx] at h3 h4
  have h5 : (x + 1) * 2 ^ s ≤ 4294967296 := by
    have e : (4294967296 : Nat) = 2 ^ (32 - s) * 2 ^ s := by rw [← Nat.pow_add, show 32 - s + s = 32 by omega]
    rw [e] at h2 ⊢
    exact Nat.mul_le_mul_right _ (Nat.lt_of_mul_lt_mul_right h2)
  have hlt : N < 4294967296 ^ (m + 1) := by
    have h6 : B * 2 ^ s < (x + 1) * 4294967296 ^ m * 2 ^ s := (Nat.mul_lt_mul_right (Nat.two_pow_pos _)).2 h4
    have h7 : (x + 1) * 4294967296 ^ m * 2 ^ s = (x + 1) * 2 ^ s * 4294967296 ^ m := by rw [Nat.mul_assoc, Nat.mul_comm (4294967296 ^ m), ← Nat.mul_assoc]
    have h8 : (x + 1) * 2 ^ s * 4294967296 ^ m ≤ 4294967296 * 4294967296 ^ m := Nat.mul_le_mul_right _ h5
    rw [Nat.pow_succ, Nat.mul_comm (4294967296 ^ m), hN]
    omega
  have hge : 2147483648 * 4294967296 ^ m ≤ N := by
    have h6 : x * 2 ^ s * 4294967296 ^ m ≤ N := by
      rw [hN, Nat.mul_assoc, Nat.mul_comm (2 ^ s), ← Nat.mul_assoc]; exact Nat.mul_le_mul_right _ h3
    exact Nat.le_trans (Nat.mul_le_mul_right _ h1) h6
  have hlen : (nw N).length = m + 1 := by
    have h6 := nw_len_lt.2 hlt
    rcases Nat.lt_or_ge m (nw N).length with h7 | h7
    · omega
    · have h8 := nw_len_lt.1 h7
      have : 1 * 4294967296 ^ m ≤ 2147483648 * 4294967296 ^ m := Nat.mul_le_mul_right _ (by omega)
      omega
  refine ⟨hlen, ?_, hlt⟩
  obtain ⟨_, _, h6⟩ := top_word (nw_wd N) (m := m) hlen
  rw [nv_nw] at h6
  have := Nat.lt_of_mul_lt_mul_right (Nat.lt_of_le_of_lt hge h6)
  omega
/-- The reference's estimate is not less than the digit. -/
theorem ref_guess {N X m head : Nat} (hN : (nw N).length = m + 1) (ht : 2147483648 ≤ (nw N).getD m 0) (hX : X < N * 4294967296) (hh : head = (nw X).getD (m + 1) 0 * 4294967296 + (nw X).getD m 0) : X / N ≤ min (head / (nw N).getD m 0) 4294967295 := by
  have hlt := nw_len_lt.1 (Nat.le_of_eq hN)
  have hXl : X < 4294967296 ^ (m + 2) := by
    rw [Nat.pow_succ]
    exact Nat.lt_of_lt_of_le hX (Nat.mul_le_mul_right _ (Nat.le_of_lt hlt))
  have hl := nw_len_lt.2 hXl
  refine Nat.le_min.2 ⟨?_, ?_⟩
  · obtain ⟨_, h3, _⟩ := top_word (nw_wd N) (m := m) hN
    rw [nv_nw] at h3
    refine guess_ge h3 ?_ (by omega)
    have h4 := nv_take_succ (nw X) m
    have h5 := nv_take_succ (nw X) (m + 1)
    rw [nv_take_all (nw X) (m + 1 + 1) (by omega), nv_nw] at h5
    have h6 : nv ((nw X).take m) < 4294967296 ^ m := by have := seg_lt (nw_wd X) 0 m; simpa using this
    rw [h4] at h5
    generalize (nw X).getD (m + 1) 0 = p at *
    generalize (nw X).getD m 0 = q at *
    generalize nv ((nw X).take m) = t at *
    have h7 : p * 4294967296 ^ (m + 1) = p * 4294967296 * 4294967296 ^ m := by rw [Nat.pow_succ, Nat.mul_comm (4294967296 ^ m), ← Nat.mul_assoc]
    rw [hh, Nat.add_mul, Nat.add_mul, Nat.one_mul]
    omega
  · have : X / N < 4294967296 := Nat.div_lt_of_lt_mul hX
    omega
end Go.Proofs.YthiemjodcklejaaGreatDoor

/-
  Steps of a region that draws its order: make of a row, append of a slice of words.
-/
namespace Go.Proofs.YthiemjodcklejaaGreatDoor
open Go.RowKit

/-- A row of one word of the call's own. -/
theorem own_oneW (w : World) (B x : Nat) (hx : x < 4294967296) (hB : B ≤ w.heap.size) : OwnWds (w.alloc (.cells #[.int .u32 (x : Int)] 82)) B (.slice (some ⟨w.heap.size, 0, none⟩) 1 1) [x] :=
  ⟨⟨by simp, .inr ⟨w.heap.size, 1, #[.int .u32 (x : Int)], rfl, hB, heap_alloc_new w _, Nat.le_refl _, by unfold maxLen; omega, by simp, by simp [w32]⟩⟩, by simp, Wd.cons hx Wd.nil⟩
/-- A round of the reference's long division. -/
theorem ref_step {Aw Q : List Nat} {N R j g X : Nat} (h : nv (Aw.drop (j + 1)) = N * nv (Q.drop (j + 1)) + R) (hj : j < Aw.length) (hq : j < Q.length) (hX : X = Aw.getD j 0 + 4294967296 * R) (hg : g = X / N) : nv (Aw.drop j) = N * nv ((Q.set j g).drop j) + X % N := by
  rw [nv_drop_step hj, nv_drop_step (l := Q.set j g) (by rw [List.length_set]; exact hq), getD_set_self hq, List.drop_set_of_lt (by omega), hg]
  exact long_step h X hX
/-- The guess goes down to the digit. -/
theorem ref_more {N X g : Nat} (hN : 0 < N) (hge : X / N ≤ g) (hm : X < N * g) : ∃ g', g = g' + 1 ∧ X / N ≤ g' ∧ N * g - N = N * g' ∧ N ≤ N * g := by
  have h1 : X / N < g := by rw [Nat.div_lt_iff_lt_mul hN, Nat.mul_comm]; exact hm
  have h0 : 0 < g := Nat.lt_of_le_of_lt (Nat.zero_le _) h1
  obtain ⟨g', rfl⟩ : ∃ g', g = g' + 1 := ⟨g - 1, (Nat.sub_add_cancel h0).symm⟩
  refine ⟨g', rfl, Nat.le_of_lt_succ h1, ?_, ?_⟩
  · rw [Nat.mul_add, Nat.mul_one, Nat.add_sub_cancel]
  · rw [Nat.mul_add, Nat.mul_one]; omega
theorem ref_done {N X g : Nat} (hN : 0 < N) (hge : X / N ≤ g) (hm : N * g ≤ X) : g = X / N ∧ X - N * g = X % N := by
  have h1 : g ≤ X / N := by rw [Nat.le_div_iff_mul_le hN, Nat.mul_comm]; exact hm
  have h2 : g = X / N := Nat.le_antisymm h1 hge
  refine ⟨h2, ?_⟩
  have h3 := Nat.div_add_mod X N
  rw [h2]
  generalize N * (X / N) = z at *
  omega
/-- The start of the reference's long division: the leading words are less than the divisor. -/
theorem ref_start {Aw : List Nat} {N m : Nat} (hw : Wd Aw) (hN : (nw N).length = m + 1) : nv (Aw.drop (Aw.length + 1 - (m + 1))) < N := by
  have h1 := nv_lt (hw.drop (Aw.length + 1 - (m + 1)))
  have h2 : 4294967296 ^ (Aw.drop (Aw.length + 1 - (m + 1))).length ≤ 4294967296 ^ m := Nat.pow_le_pow_right (by omega) (by rw [List.length_drop]; omega)
  have h3 : ¬ N < 4294967296 ^ m := fun h => by have := nw_len_lt.2 h; omega
  omega
end Go.Proofs.YthiemjodcklejaaGreatDoor

/-
  Walk: faultlineref01.Div.
-/
namespace Go.Proofs.YthiemjodcklejaaGreatDoor
open Go.RowKit

theorem run_make_u (w : World) (n : Nat) (hn : n ≤ 549755813888) : ∃ w', Sem.run Tryz.prog (Instr.makeSlice 29 (.int .i64 (n : Int)) (.int .i64 (n : Int))) w = Result.ok (.slice (some ⟨w.heap.size, 0, none⟩) n n) w' ∧ RowAt w' w.heap.size 82 (List.replicate n (.int .u32 0)) ∧ Kept w w' := by
  obtain ⟨i0, hi0, hz0, hz1, hz2⟩ := info_parts info_u32
  obtain ⟨w', hrun, r1, r2⟩ := run_make_full (P := Tryz.prog) w w.heap.size 29 82 i0 (.int .u32 0) 1 Tryz.underlying29 hi0 hz0 hz1 .i64 .i64 n (by rw [hz2]; omega) (by unfold maxLen; omega) (Nat.le_refl _)
  refine ⟨w', hrun, ?_, ⟨r2.os, r2.tape, r2.output, r2.size, fun k hk => r2.block k hk (by simp)⟩⟩
  rw [made_one (.int .u32 0) rfl n] at r1
  obtain ⟨h3, h4⟩ := r1
  rcases h4 with ⟨h4, _⟩ | ⟨g, cap, cur, h4, h5, h6, h7, h8, h9, h10⟩
  · cases h4
  · cases h4
    exact ⟨cur, h6, by simp; omega, by simpa using h10⟩
theorem step_wds2 {ops : Array Oper} {o : Oper} {a : Act} {K : Act → World → Prop} {Q : Exit → Act → World → Prop} {E : Prop} {w : World} (hgd : o.guard = none) (s x : Operand)
    (ho : o.op = .call { callee := .builtin .append, args := #[s, x], argTypes := #[29, 29] }) (B : Nat) (v : Value) (xs : List Nat) (hs : a.eval s = v) (hown : OwnWds w B v xs)
    (ad : Addr) (n c : Nat) (ys : List Nat) (hx : a.eval x = .slice (some ad) n c) (hu : WdsAt w (.slice (some ad) n c) ys) (hl : xs.length + ys.length ≤ 1099511627776) (hB : B ≤ w.heap.size)
    (h : ∀ v' w', OwnWds w' B v' (xs ++ ys) → w.grownBy w' v.ownBlock → K (a.put o.dst v') w') : if Region.wanted o (yielded ops a.tmps) = true then Oper.wp Tryz.prog o a w K Q else E := by
  have hw : Region.wanted o (yielded ops a.tmps) = true := by simp [Region.wanted, hgd]
  rw [if_pos hw]
  obtain ⟨i0, hi0, hz0, hz1, hz2⟩ := info_parts info_u32
  obtain ⟨ad', c', he, ⟨hc, hcn⟩, hl2, hwd, hcell⟩ := hu
  injection he with he1 he2 he3
  subst he2 he3
  subst he1
  refine wp_append_own _ s x 29 ho B 82 i0 _ 1 4 Tryz.underlying29 hi0 hz0 hz1 hz2 rfl (by decide) v xs.length _ hs hown.1 ad ys.length c (ys.map w32) hx (by simp) ?_ ?_ (by simp [maxLen]; omega) (by omega) hB ?_
  · intro j u hj
    have hj' : j < ys.length := by
      rcases Nat.lt_or_ge j ys.length with h | h
      · exact h
      · rw [List.getElem?_eq_none (by simpa using h)] at hj; cases hj
    obtain ⟨b, o, h5, h6⟩ := hcell j hj'
    cases h5
    simp [hj', w32] at hj
    subst hj
    rw [show ({ block := b, off := o } : Addr).add j = ⟨b, o + j, none⟩ by unfold Addr.add; split <;> simp_all, h6]
    simp [List.getD_eq_getElem?_getD, hj']
  · intro u hu; obtain ⟨y, _, rfl⟩ := List.mem_map.1 hu; rfl
  · intro v' w' h5 h6 _
    exact h v' w' ⟨by simpa using h5, by simp; omega, hown.2.2.app hwd⟩ h6
theorem up_len {xs : List Nat} {s : Nat} (hw : Wd xs) (hs : s < 32) : (nw (nv xs * 2 ^ s)).length ≤ xs.length + 1 := by
  have h : 2 ^ s ≤ 2 ^ 32 := Nat.pow_le_pow_right (by omega) (by omega)
  have e : (2 : Nat) ^ 32 = 4294967296 := rfl
  rw [e] at h
  refine nw_len_lt.2 ?_
  rw [Nat.pow_succ]
  exact Nat.lt_of_lt_of_le (Nat.mul_lt_mul_of_pos_right (nv_lt hw) (Nat.two_pow_pos s)) (Nat.mul_le_mul_left _ h)
set_option maxRecDepth 100000 in
set_option maxHeartbeats 4000000 in
theorem refdiv_any (va vb : Value) (xs ys : List Nat) (w : World) (ha : WdsAt w va xs) (hb : WdsAt w vb ys) (hla : xs.length ≤ 137438953472) (hlb : ys.length ≤ 137438953472) (hA0 : nv xs ≠ 0) (hB0 : nv ys ≠ 0) :
    Calls Tryz.prog 242 #[va, vb] w fun e w' => (∃ v1 v2, e = .returned (.tuple #[v1, v2, .int .i64 0]) ∧ WdsAt w' v1 (nw (nv xs / nv ys)) ∧ WdsAt w' v2 (nw (nv xs % nv ys))) ∧ Kept w w' := by
  have HTB := Lib.hid (rtrim_any vb ys w hb)
  obtain ⟨m, hm⟩ : ∃ m, (nw (nv ys)).length = m + 1 := ⟨(nw (nv ys)).length - 1, by
    have : (nw (nv ys)).length ≠ 0 := fun h => hB0 (nw_eq_nil.1 (List.eq_nil_of_length_eq_zero h))
    omega⟩
  have hm9 : m ≤ 137438953472 := by have := nw_length_le hb.wd; omega
  obtain ⟨x, hx⟩ : ∃ x, x = (nw (nv ys)).getD m 0 := ⟨_, rfl⟩
  have hx9 : x < 4294967296 := by rw [hx]; exact (nw_wd _).getD _
  have hx0 : x ≠ 0 := by
    have h := nw_pl (nv ys)
    have hne : nw (nv ys) ≠ [] := fun e => by rw [e] at hm; simp at hm
    have h2 := h hne
    rw [List.getLast_eq_getElem] at h2
    rw [hx, List.getD_eq_getElem?_getD, show m = (nw (nv ys)).length - 1 by omega, List.getElem?_eq_getElem (by omega)]
    exact h2
  obtain ⟨s0, _, hs32, hxs1, hxs2⟩ := lead_word hx9 hx0
  have HUA := Lib.hid (fun W (hk : Kept w W) => refup_any va xs s0 W (ha.kept hk) hs32 (by omega))
  have HAL : Hid ((nw (nv xs * 2 ^ s0)).length ≤ 137438953473) := Lib.hid (Nat.le_trans (up_len ha.wd hs32) (by omega))
  obtain ⟨a0, c0, rfl⟩ := ha.shape
  obtain ⟨a1, c1, rfl⟩ := hb.shape
  obtain ⟨A, hA⟩ : ∃ A, A = nv xs := ⟨_, rfl⟩
  obtain ⟨B, hB⟩ : ∃ B, B = nv ys := ⟨_, rfl⟩
  rw [← hB] at HTB hm hx ⊢
  rw [← hA] at HUA HAL hA0 ⊢
  have HA0 := Lib.hid hA0
  obtain ⟨n, hn⟩ : ∃ n, n = m + 1 := ⟨_, rfl⟩
  have HN := Lib.hid hn
  have HM := Lib.hid hm
  have HX := Lib.hid hx
  have HXS := Lib.hid (And.intro hxs1 hxs2)
  have en : (n : Int) - 1 = (m : Int) := by omega
  have hn0 : ((n : Int) == 0) = false := by simp; omega
  have hmn : m < n := by omega
  have hmn' : (m : Int) < (n : Int) := by omega
  have hn9 : n ≤ 137438953473 := by omega
  generalize xs.length = lx at *
  generalize ys.length = ly at *
  clear hx0 hm hx ha hb hA hB hB0 hn hla hlb hxs1 hxs2
  go_enter Tryz.func242, Tryz.ntmps242
  go_wp2_with fail
  refine HTB.out.mono ?_
  rintro e w1 ⟨⟨v1, rfl, hv1⟩, hk1⟩
  have H1 := Lib.hid hv1.at
  have HK1 := Lib.hid hk1
  obtain ⟨a2, c2, hv⟩ := hv1.at.shape
  rw [HM.out, ← HN.out] at hv
  subst hv
  obtain ⟨b2, o2, rfl, hcx⟩ := H1.out.get m (by rw [HM.out]; omega)
  rw [← HX.out] at hcx
  clear hv1 hk1
  go_wp2_with fail
  go_loopg [8] s0 (fun kx s8 wr => ∃ s : Nat, s8 = .int .i64 s ∧ s ≤ s0 ∧ s0 - s ≤ kx ∧ w1 = wr)
  case atStart => exact ⟨0, rfl, Nat.zero_le _, Nat.le_refl _, rfl⟩
  case round =>
    obtain ⟨s, rfl, hs, hkx, rfl⟩ := hrel
    obtain ⟨y, hy⟩ : ∃ y, y = x * 2 ^ s := ⟨_, rfl⟩
    have ey : (x : Int) * 2 ^ s = (y : Int) := by rw [hy]; simp
    have hsn : ¬ (s : Int) < 0 := by omega
    by_cases hlt : s < s0
    · have hy9 : y < 2147483648 := by
        have h1 : 2 ^ s * 2 ≤ 2 ^ s0 := by rw [← Nat.pow_succ]; exact Nat.pow_le_pow_right (by omega) hlt
        have h2 : x * (2 ^ s * 2) ≤ x * 2 ^ s0 := Nat.mul_le_mul_left _ h1
        rw [← Nat.mul_assoc] at h2
        have := HXS.out.2
        omega
      have ew : IntKind.u32.wrap (y : Int) = (y : Int) := by rw [IntKind.wrap_u32]; omega
      have ea : bits .and .u32 (y : Int) 2147483648 = 0 := by rw [and_top y (by omega), if_neg (by omega)]
      clear hy
      go_wp2_with fail
      go_roundg (s0 - (s + 1))
      case measure => omega
      case rel => exact ⟨s + 1, by go_num, by omega, Nat.le_refl _, rfl⟩
    · have hse : s = s0 := by omega
      subst hse
      have hy1 : 2147483648 ≤ y := by rw [hy]; exact HXS.out.1
      have hy9 : y < 4294967296 := by rw [hy]; exact HXS.out.2
      have ew : IntKind.u32.wrap (y : Int) = (y : Int) := by rw [IntKind.wrap_u32]; omega
      have ea : bits .and .u32 (y : Int) 2147483648 = 2147483648 := by rw [and_top y hy9, if_pos hy1]
      clear hy
      go_wp2_with fail
      refine (HUA.out _ HK1.out).mono ?_
      rintro e w3 ⟨⟨v3, rfl, hv3⟩, hk3⟩
      have H3 := Lib.hid hv3
      have H1' := Lib.hid (H1.out.kept hk3)
      have HK3 := Lib.hid (HK1.out.trans hk3)
      clear hv3 hk3 hcx ea ew
      go_wp2_with fail
      have hsh := norm_word (N := B * 2 ^ s) HM.out HX.out hs32 HXS.out.1 HXS.out.2 rfl
      refine (refup_any _ (nw B) s _ H1'.out hs32 (by rw [HM.out]; omega)).mono ?_
      rintro e w4 ⟨⟨v4, rfl, hv4⟩, hk4⟩
      rw [nv_nw] at hv4
      obtain ⟨N, hNN⟩ : ∃ N, N = B * 2 ^ s := ⟨_, rfl⟩
      rw [← hNN] at hv4 hsh
      have HNN := Lib.hid hNN
      have HSH := Lib.hid hsh
      have H4 := Lib.hid hv4
      have H3' := Lib.hid (H3.out.kept hk4)
      have HK4 := Lib.hid (HK3.out.trans hk4)
      obtain ⟨A2, hA2⟩ : ∃ A2, A2 = nw (A * 2 ^ s) := ⟨_, rfl⟩
      have HA2 := Lib.hid hA2
      obtain ⟨la, hla⟩ : ∃ la, la = A2.length := ⟨_, rfl⟩
      have HLA := Lib.hid hla
      have hla9 : la ≤ 549755813888 := by rw [hla, hA2]; exact Nat.le_trans HAL.out (by omega)
      obtain ⟨a3, c3, hv3⟩ := H3'.out.shape
      rw [← hA2, ← hla] at hv3
      subst hv3
      rw [← hA2] at H3'
      obtain ⟨kk, hkk⟩ : ∃ kk, kk = la + 1 - n := ⟨_, rfl⟩
      have hd9 : (la : Int) - (n : Int) < 549755813888 := by omega
      obtain ⟨d, hd⟩ : ∃ d, d = (la : Int) - (n : Int) := ⟨_, rfl⟩
      have hdk : d = (kk : Int) - 1 ∨ (kk = 0 ∧ d < 0 ∧ -137438953473 ≤ d) := by omega
      have HKK := Lib.hid hkk
      clear hv4 hk4 hsh hNN hA2 hla H3 H1' hkk
      go_wp2_with fail
      go_cut [9, 10] (fun v9 v10 wx => ∃ (g : Nat) (Rs : List Nat), v9 = .slice (some ⟨g, 0, none⟩) la la ∧ Hid (w4.heap.size ≤ g ∧ RowAt wx g 82 ((List.replicate la 0).map w32)) ∧ Hid (WdsAt wx v10 Rs ∧ nv Rs = nv (A2.drop kk) ∧ Rs.length ≤ 549755813888) ∧ Hid (Kept w4 wx))
      case first =>
        have hA2n : 0 < la := by
          have h1 : A2 ≠ [] := by
            rw [HA2.out]
            intro h
            have h2 := nw_eq_nil.1 h
            rcases Nat.mul_eq_zero.1 h2 with h3 | h3
            · exact HA0.out h3
            · have := Nat.two_pow_pos s; omega
          rw [HLA.out]
          exact List.length_pos_iff.2 h1
        obtain ⟨b3, o3, rfl, _⟩ := H3'.out.get 0 (by rw [← HLA.out]; exact hA2n)
        have hcap : la ≤ c3 := by
          obtain ⟨_, _, h1, h2, _⟩ := H3'.out
          injection h1 with h3 h4 h5
          rw [h4, h5]; exact h2.1
        obtain ⟨mk, hmk⟩ : ∃ mk : World → World, ∀ W, Sem.run Tryz.prog (Instr.makeSlice 29 (.int .i64 (la : Int)) (.int .i64 (la : Int))) W = Result.ok (.slice (some ⟨W.heap.size, 0, none⟩) la la) (mk W) ∧ RowAt (mk W) W.heap.size 82 (List.replicate la (.int .u32 0)) ∧ Kept W (mk W) :=
          ⟨fun W => (run_make_u W la hla9).choose, fun W => (run_make_u W la hla9).choose_spec⟩
        have HMK := Lib.hid hmk
        have hrunm := fun W => (HMK.out W).1
        have ew1 : IntKind.i64.wrap ((la : Int) - (n : Int)) = (la : Int) - (n : Int) := by rw [IntKind.wrap_i64]; omega
        have ew2 : IntKind.i64.wrap ((la : Int) - (n : Int) + 1) = (la : Int) - (n : Int) + 1 := by rw [IntKind.wrap_i64]; omega
        have emx : max 0 ((la : Int) - (n : Int) + 1) = (kk : Int) := by have := HKK.out; omega
        have hkl : kk ≤ la := by have := HKK.out; omega
        have hkl' : (kk : Int) ≤ (la : Int) := by omega
        have hk0 : (0 : Int) ≤ (kk : Int) := by omega
        have hkc : (kk : Int) ≤ (c3 : Int) := by omega
        have hlc : (la : Int) ≤ (c3 : Int) := by omega
        clear hmk hd hdk
        obtain ⟨ad, hite⟩ : ∃ ad : Addr, (if c3 = kk then some (⟨b3, o3, none⟩ : Addr) else some ⟨b3, o3 + kk, none⟩) = some ad := by
          by_cases h : c3 = kk
          · exact ⟨_, if_pos h⟩
          · exact ⟨_, if_neg h⟩
        have HU : Hid (∀ W, Kept w4 W → WdsAt W (.slice (some ad) (la - kk) (c3 - kk)) (A2.drop kk)) := Lib.hid fun W hk => by
          by_cases h : c3 = kk
          · rw [if_pos h] at hite
            have e1 : la = kk := by omega
            have e2 : A2.drop kk = [] := List.drop_eq_nil_of_le (by rw [← HLA.out, e1]; exact Nat.le_refl _)
            rw [e2, e1, Nat.sub_self]
            exact ⟨some ad, c3 - kk, rfl, ⟨Nat.zero_le _, fun h => by cases h⟩, by simp, Wd.nil, fun i hi => by simp at hi⟩
          · rw [if_neg h] at hite
            injection hite with hite
            rw [← hite]
            have := (H3'.out.kept hk).drop kk (by rw [← HLA.out]; exact hkl)
            exact this
        have HITE := Lib.hid hite
        have HAL9 : Hid ((A2.drop kk).length ≤ 549755813888) := Lib.hid (by rw [List.length_drop, ← HLA.out]; omega)
        clear hite hcap
        go_region_law (refine step_wds2 (by rfl) _ _ (by rfl) w4.heap.size _ [] (by rfl) (by first | exact own_emptyW _ _ (HMK.out w4.drew).2.2.size | exact (own_emptyW w4.drew w4.heap.size (Nat.le_refl _)).kept (HMK.out _).2.2 | exact own_emptyW w4.drew _ (Nat.le_refl _)) ad (la - kk) (c3 - kk) (A2.drop kk) (by exact congrArg (fun q => Value.slice q (la - kk) (c3 - kk)) HITE.out) (HU.out _ (by first | exact ((Kept.refl w4).drew.trans (HMK.out _).2.2).alloc _ | exact ((Kept.refl w4).drew.alloc _).trans (HMK.out _).2.2 | exact (Kept.refl w4).drew.alloc _)) (by have := HAL9.out; simp only [List.length_nil]; omega) (by first | exact (((Kept.refl w4).drew.trans (HMK.out _).2.2).alloc _).size | exact (((Kept.refl w4).drew.alloc _).trans (HMK.out _).2.2).size | exact ((Kept.refl w4).drew.alloc _).size) ?_; intro v7 w7 h7 hg7; have O7 := Lib.hid h7; have G7 := Lib.hid hg7; clear h7 hg7)
        all_goals simp only [HITE.out]
        all_goals go_wp2_with fail
        all_goals go_meet
        all_goals first
          | exact ⟨_, _, rfl, Lib.hid ⟨Nat.le_refl _, made_wds (((HMK.out w4.drew).2.1.kept ((Kept.refl _).alloc (.cells #[] 82))).same (G7.out.block _ (by have := (HMK.out w4.drew).2.1.lt; simp only [World.size_alloc]; exact Nat.lt_succ_of_lt this) (by have := (HMK.out w4.drew).2.1.lt; exact fun e => Nat.ne_of_lt this (Option.some.inj e))))⟩, Lib.hid ⟨O7.out.at, by simp, by have := HAL9.out; simpa using this⟩, Lib.hid ((((Kept.refl w4).drew.trans (HMK.out w4.drew).2.2).alloc (.cells #[] 82)).app (grown_below G7.out (own_emptyW (mk w4.drew) w4.heap.size (HMK.out w4.drew).2.2.size).1 ((((Kept.refl w4).drew.trans (HMK.out w4.drew).2.2).alloc (.cells #[] 82)).size)))⟩
          | exact ⟨_, _, rfl, Lib.hid ⟨Nat.le_succ _, made_wds (RowAt.same (w := mk (w4.drew.alloc (.cells #[] 82))) (by have h := (HMK.out (w4.drew.alloc (.cells #[] 82))).2.1; rw [World.size_alloc] at h; exact h) (G7.out.block _ (by have h := (HMK.out (w4.drew.alloc (.cells #[] 82))).2.1.lt; rw [World.size_alloc] at h; exact h) (fun e => Nat.succ_ne_self _ (Option.some.inj e))))⟩, Lib.hid ⟨O7.out.at, by simp, by have := HAL9.out; simpa using this⟩, Lib.hid ((((Kept.refl w4).drew.alloc (.cells #[] 82)).trans (HMK.out _).2.2).app (grown_below G7.out ((own_emptyW w4.drew w4.heap.size (Nat.le_refl _)).kept (HMK.out _).2.2).1 ((((Kept.refl w4).drew.alloc (.cells #[] 82)).trans (HMK.out _).2.2).size)))⟩
          | exact ⟨_, _, rfl, Lib.hid ⟨Nat.le_trans (((Kept.refl w4).drew.alloc (.cells #[] 82)).size) G7.out.size, made_wds (HMK.out w7).2.1⟩, Lib.hid ⟨O7.out.at.kept (HMK.out w7).2.2, by simp, by have := HAL9.out; simpa using this⟩, Lib.hid ((((Kept.refl w4).drew.alloc (.cells #[] 82)).app (grown_below G7.out (own_emptyW w4.drew w4.heap.size (Nat.le_refl _)).1 (((Kept.refl w4).drew.alloc (.cells #[] 82)).size))).trans (HMK.out w7).2.2)⟩
      case rest =>
        obtain ⟨g, Rs, rfl, HG, HRS, HKC⟩ := hcut
        go_wp2_with fail
        have HGW := Lib.hid HG.out.1
        have HST : Hid (nv (A2.drop kk) = N * nv ((List.replicate la 0).drop kk) + nv Rs ∧ nv Rs < N) := Lib.hid ⟨by rw [List.drop_replicate, nv_zeros, Nat.mul_zero, Nat.zero_add]; exact HRS.out.2.1.symm, by rw [HRS.out.2.1, HKK.out, HLA.out, HN.out]; exact ref_start (by rw [HA2.out]; exact nw_wd _) HSH.out.1⟩
        have HRG := Lib.hid HG.out.2
        rw [← hd]
        clear hd
        go_loopg [10, 11] kk (fun kx s10 s11 wr => ∃ (k : Nat) (j : Int) (Q Rs : List Nat), s11 = .int .i64 j ∧ (j = (k : Int) - 1 ∨ (k = 0 ∧ j < 0)) ∧ -549755813888 ≤ j ∧ k ≤ kk ∧ k ≤ kx ∧ Hid (RowAt wr g 82 (Q.map w32)) ∧ Hid (Q.length = la ∧ Wd Q) ∧ Hid (WdsAt wr s10 Rs ∧ Rs.length ≤ 549755813888) ∧ Hid (nv (A2.drop k) = N * nv (Q.drop k) + nv Rs ∧ nv Rs < N) ∧ Hid (Kept w4 wr))
        case atStart => exact ⟨kk, d, List.replicate la 0, Rs, rfl, by omega, by omega, Nat.le_refl _, Nat.le_refl _, HRG, Lib.hid ⟨by simp, Wd.zeros _⟩, Lib.hid ⟨HRS.out.1, HRS.out.2.2⟩, HST, HKC⟩
        case round =>
          obtain ⟨k, j, Q, Rs2, rfl, hjk, hj9, hk, hkx, HQ, HQL, HR, HI, HK4r⟩ := hrel
          have HK := Lib.hid (HK4.out.trans HK4r.out)
          have HAB := Lib.hid (And.intro (H3'.out.kept HK4r.out) (H4.out.kept HK4r.out))
          by_cases hk0 : k = 0
          · have hjneg : j < 0 := by omega
            have hjn : ¬ (0 : Int) ≤ j := by omega
            subst hk0
            have hfin : A / B = nv Q ∧ nv Rs2 / 2 ^ s = A % B := by
              have h1 := HI.out.1
              have h2 := HI.out.2
              simp only [List.drop_zero] at h1
              rw [HA2.out, nv_nw, HNN.out] at h1
              rw [HNN.out] at h2
              exact shift_div h1 h2
            have HFIN := Lib.hid hfin
            have HQA : Hid (WdsAt wr (.slice (some ⟨g, 0, none⟩) la la) Q) := Lib.hid (by
              have h := row_wds HQ.out (c := la) (by rw [HQL.out.1]; exact Nat.le_refl _) (by rw [HQL.out.1]; omega) HQL.out.2
              rw [HQL.out.1] at h
              exact h)
            clear hfin
            go_wp2_with fail
            refine (rtrim_any _ _ _ HQA.out).mono ?_
            rintro e w8 ⟨⟨v8, rfl, hv8⟩, hk8⟩
            go_wp2_with fail
            refine (refdown_any _ Rs2 s _ (HR.out.1.kept hk8) hs32).mono ?_
            rintro e w9 ⟨⟨v9, rfl, hv9⟩, hk9⟩
            have H8 := Lib.hid (hv8.at.kept hk9)
            have H9 := Lib.hid hv9
            have HK9 := Lib.hid ((HK.out.trans hk8).trans hk9)
            clear hv8 hk8 hv9 hk9
            go_wp2
            go_ret3
            exact ⟨⟨_, _, rfl, by rw [HFIN.out.1]; exact H8.out, by rw [← HFIN.out.2]; exact H9.out⟩, HK9.out⟩
          · obtain ⟨i, rfl⟩ : ∃ i, k = i + 1 := ⟨k - 1, by omega⟩
            have hji : j = (i : Int) := by omega
            subst hji
            have hila : i < la := by have := HKK.out; omega
            have hilA : i < A2.length := by rw [← HLA.out]; exact hila
            obtain ⟨b5, o5, hb5, hcy⟩ := HAB.out.1.get i hilA
            cases hb5
            have hy9 := HAB.out.1.wd.getD i
            obtain ⟨y, hy⟩ : ∃ y, y = A2.getD i 0 := ⟨_, rfl⟩
            rw [← hy] at hcy hy9
            obtain ⟨X, hX⟩ : ∃ X, X = y + 4294967296 * nv Rs2 := ⟨_, rfl⟩
            have HX1 : Hid (nv ([y] ++ Rs2) = X) := Lib.hid (by rw [hX]; rfl)
            have HXX := Lib.hid hX
            have HY := Lib.hid hy
            have hXN : X < N * 4294967296 := by have := HI.out.2; omega
            have HXN := Lib.hid hXN
            have hin : (i : Int) < (la : Int) := by omega
            have hi0 : (0 : Int) ≤ (i : Int) := by omega
            obtain ⟨ra, rc, hrv⟩ := HR.out.1.shape
            clear hX hy hXN hrv hjk hk0
            go_wp2_with (at_builtin; refine app_wds rfl _ _ rfl wr.heap.size _ [y] rfl (own_oneW wr _ y hy9 (Nat.le_refl _)) _ Rs2 rfl (HR.out.1.kept ((Kept.refl _).alloc _)) (by have := HR.out.2; simp; omega) (by simp) ?_; intro v7 w7 h7 hb7; have O7 := Lib.hid h7; have HB7 := Lib.hid hb7; clear h7 hb7)
            have HK7 : Hid (Kept wr w7) := Lib.hid (((Kept.refl wr).alloc _).app HB7.out)
            refine (rtrim_any _ _ _ O7.out.at).mono ?_
            rintro e w8 ⟨⟨v8, rfl, hv8⟩, hk8⟩
            rw [HX1.out] at hv8
            have H8 := Lib.hid hv8.at
            have HK8 := Lib.hid (HK7.out.trans hk8)
            obtain ⟨hp, hhp⟩ : ∃ hp, hp = (nw X).getD n 0 := ⟨_, rfl⟩
            obtain ⟨hq, hhq⟩ : ∃ hq, hq = (nw X).getD m 0 := ⟨_, rfl⟩
            obtain ⟨top, htop⟩ : ∃ top, top = (nw N).getD m 0 := ⟨_, rfl⟩
            have hp9 : hp < 4294967296 := by rw [hhp]; exact (nw_wd X).getD _
            have hq9 : hq < 4294967296 := by rw [hhq]; exact (nw_wd X).getD _
            have htop9 : top < 4294967296 := by rw [htop]; exact (nw_wd N).getD _
            have htop1 : 2147483648 ≤ top := by rw [htop]; exact HSH.out.2.1
            obtain ⟨hd2, hhd2⟩ : ∃ hd2, hd2 = hp * 4294967296 + hq := ⟨_, rfl⟩
            have eor := or_word hp hq hp9 hq9
            rw [← hhd2] at eor
            have hg := ref_guess (N := N) (X := X) (m := m) (head := hd2) HSH.out.1 HSH.out.2.1 HXN.out (by rw [hhd2, hhp, hhq, HN.out])
            rw [← htop] at hg
            obtain ⟨g0, hg0⟩ : ∃ g0, g0 = hd2 / top := ⟨_, rfl⟩
            rw [← hg0] at hg
            have eg0 : (hd2 : Int) / (top : Int) = (g0 : Int) := by rw [hg0]; simp
            have hd29 : hd2 < 18446744073709551616 := by omega
            have hg09 : g0 < 18446744073709551616 := Nat.lt_of_le_of_lt (by rw [hg0]; exact Nat.div_le_self _ _) hd29
            obtain ⟨g1, hg1⟩ : ∃ g1, g1 = min g0 4294967295 := ⟨_, rfl⟩
            rw [← hg1] at hg
            have eg1 : min (g0 : Int) 4294967295 = (g1 : Int) := by omega
            have hg19 : g1 < 4294967296 := by omega
            have HGE := Lib.hid hg
            have htop0 : ((top : Int) == 0) = false := by simp; omega
            have W1 := Lib.hid (rword_any _ _ n w8 H8.out)
            have W2 := Lib.hid (rword_any _ _ m w8 H8.out)
            have W3 := Lib.hid (rword_any _ _ m w8 (HAB.out.2.kept HK8.out))
            rw [← hhp] at W1
            rw [← hhq] at W2
            rw [← htop] at W3
            clear hhp hhq htop hhd2 hg hg0 hg1 hv8 hk8 hcy
            go_wp2_with fail
            refine W1.out.mono ?_
            rintro e w9 ⟨rfl, rfl⟩
            go_wp2_with fail
            refine W2.out.mono ?_
            rintro e w9 ⟨rfl, rfl⟩
            go_wp2_with fail
            refine W3.out.mono ?_
            rintro e w9 ⟨rfl, rfl⟩
            go_wp2_with fail
            refine (refmul_any _ _ (nw N) [g1] _ ((HAB.out.2.kept HK8.out).kept ((Kept.refl _).alloc _)) (wds_new1 _ g1 hg19) (by rw [HSH.out.1]; omega) (by simp)).mono ?_
            rintro e w10 ⟨⟨v10, rfl, hv10⟩, hk10⟩
            rw [nv_nw, show nv [g1] = g1 by simp [nv]] at hv10
            have H10 := Lib.hid hv10
            have HK10 := Lib.hid ((HK8.out.alloc _).trans hk10)
            have H8' := Lib.hid ((H8.out.kept ((Kept.refl _).alloc _)).kept hk10)
            clear hv10 hk10 eor eg0 eg1
            go_wp2_with fail
            go_loopg [12, 13] g1 (fun kx s12 s13 wq => ∃ g : Nat, s12 = .int .u64 g ∧ g ≤ kx ∧ g < 4294967296 ∧ Hid (WdsAt wq s13 (nw (N * g))) ∧ Hid (X / N ≤ g) ∧ Hid (Kept wr wq) ∧ Hid (WdsAt wq v8 (nw X)))
            case atStart => exact ⟨g1, rfl, Nat.le_refl _, hg19, H10, HGE, HK10, H8'⟩
            case round =>
              obtain ⟨g2, rfl, hgk, hg29, HP2, HG2, HKQ, HX2⟩ := hrel
              have hN0 : 0 < N := Nat.lt_of_le_of_lt (Nat.zero_le _) HI.out.2
              obtain ⟨cm, hcm⟩ : ∃ cm, cm = cmpN (N * g2) X := ⟨_, rfl⟩
              by_cases hle : N * g2 ≤ X
              · have hc : ¬ 0 < cm := by have := (cmp_le (N * g2) X).2 hle; omega
                obtain ⟨hd1, hd3⟩ := ref_done hN0 HG2.out hle
                have HD1 := Lib.hid hd1
                have HD3 := Lib.hid hd3
                have HCM := Lib.hid hcm
                have HLE := Lib.hid hle
                clear hcm hle hd1 hd3
                go_wp2_with fail
                refine (refcmp_any _ _ _ _ _ HP2.out HX2.out).mono ?_
                rintro e w11 ⟨rfl, rfl⟩
                rw [nv_nw, nv_nw, ← HCM.out]
                go_wp2_with fail
                refine (refsub_own _ _ _ _ _ HX2.out HP2.out (by rw [nv_nw, nv_nw]; exact HLE.out)).mono ?_
                rintro e w12 ⟨⟨v12, rfl, hv12⟩, hk12⟩
                rw [nv_nw, nv_nw, HD3.out] at hv12
                have hgl : g < w11.heap.size := (HQ.out.kept HKQ.out).lt
                have H12 := Lib.hid hv12
                have HK12 := Lib.hid (HKQ.out.trans hk12)
                have HQ2 := Lib.hid (HQ.out.kept HK12.out)
                have hiq : i < Q.length := by rw [HQL.out.1]; exact hila
                have f := HQ2.out.free i
                have hst := wds_cell HQ2.out i hiq
                have e5 : IntKind.u32.wrap (g2 : Int) = (g2 : Int) := by rw [IntKind.wrap_u32]; omega
                have HSTO := Lib.hid ((hv12.older hgl ((OnlyAt.refl g w12).store i (.int .u32 (g2 : Int)))).at)
                have HNX : Hid (nv (A2.drop i) = N * nv ((Q.set i g2).drop i) + nv (nw (X % N)) ∧ nv (nw (X % N)) < N) := Lib.hid ⟨by rw [nv_nw]; exact ref_step HI.out.1 hilA hiq (by rw [HXX.out, HY.out]) HD1.out, by rw [nv_nw]; exact Nat.mod_lt _ hN0⟩
                have HLN : Hid ((nw (X % N)).length ≤ 549755813888) := Lib.hid (Nat.le_trans (nw_mono_len (Nat.le_of_lt (Nat.mod_lt X hN0))) (by rw [HSH.out.1]; omega))
                clear hv12 hk12 hiq hgl
                go_wp2_with fail
                go_roundg i
                case measure => omega
                case rel => exact ⟨i, (i : Int) - 1, Q.set i g2, nw (X % N), by first | rfl | go_num, .inl rfl, by omega, by omega, Nat.le_refl _, Lib.hid (wds_store HQ2.out i g2), Lib.hid ⟨by rw [List.length_set]; exact HQL.out.1, HQL.out.2.set i g2 hg29⟩, Lib.hid ⟨HSTO.out, HLN.out⟩, HNX, Lib.hid ((HK4r.out.trans HK12.out).store HG.out.1 _ _)⟩
              · have hlt2 : X < N * g2 := by omega
                have hc : 0 < cm := by
                  have h9 := cmp_le (N * g2) X
                  rw [← hcm] at h9
                  have h8 : ¬ cm ≤ 0 := fun h => hle (h9.1 h)
                  omega
                obtain ⟨g', rfl, hge', hsub, hle'⟩ := ref_more hN0 HG2.out hlt2
                have eg : ((g' + 1 : Nat) : Int) - 1 = (g' : Int) := by omega
                have HGE' := Lib.hid hge'
                have HSUB := Lib.hid hsub
                have HLE' := Lib.hid hle'
                have HCM := Lib.hid hcm
                have HV4 := Lib.hid (HAB.out.2.kept HKQ.out)
                clear hcm hle hlt2 hge' hsub hle'
                go_wp2_with fail
                refine (refcmp_any _ _ _ _ _ HP2.out HX2.out).mono ?_
                rintro e w11 ⟨rfl, rfl⟩
                rw [nv_nw, nv_nw, ← HCM.out]
                go_wp2_with fail
                refine (refsub_any _ _ _ _ _ HP2.out HV4.out (by rw [nv_nw, nv_nw]; exact HLE'.out)).mono ?_
                rintro e w12 ⟨⟨v12, rfl, hv12⟩, hk12⟩
                rw [nv_nw, nv_nw, HSUB.out] at hv12
                have H12 := Lib.hid hv12
                have HK12 := Lib.hid (HKQ.out.trans hk12)
                have HX12 := Lib.hid (HX2.out.kept hk12)
                clear hv12 hk12
                go_wp2_with fail
                go_roundg g'
                case measure => omega
                case rel => exact ⟨g', by first | rfl | go_num, Nat.le_refl _, by omega, H12, HGE', HK12, HX12⟩
end Go.Proofs.YthiemjodcklejaaGreatDoor

/-
  Walk: faultlineref01.Gcd.
-/
namespace Go.Proofs.YthiemjodcklejaaGreatDoor
open Go.RowKit

theorem rtrim_at (v : Value) (xs : List Nat) (w : World) (hv : WdsAt w v xs) : Calls Tryz.prog 241 #[v] w fun e w' => (∃ v', e = .returned v' ∧ WdsAt w' v' (nw (nv xs))) ∧ Kept w w' :=
  (rtrim_any v xs w hv).mono fun _ _ ⟨⟨v', h1, h2⟩, h3⟩ => ⟨⟨v', h1, h2.at⟩, h3⟩
set_option maxRecDepth 100000 in
set_option maxHeartbeats 4000000 in
theorem refgcd_any (va vb : Value) (xs ys : List Nat) (w : World) (ha : WdsAt w va xs) (hb : WdsAt w vb ys) (hla : xs.length ≤ 137438953472) (hlb : ys.length ≤ 137438953472) (hA0 : nv xs ≠ 0) :
    Calls Tryz.prog 189 #[va, vb] w fun e w' => (∃ v, e = .returned v ∧ WdsAt w' v (nw (Nat.gcd (nv xs) (nv ys)))) ∧ Kept w w' := by
  have HTA := Lib.hid (fun W (hk : Kept w W) => rtrim_at va xs W (ha.kept hk))
  have HTB := Lib.hid (fun W (hk : Kept w W) => rtrim_at vb ys W (hb.kept hk))
  obtain ⟨a0, c0, rfl⟩ := ha.shape
  obtain ⟨a1, c1, rfl⟩ := hb.shape
  have HLA : Hid ((nw (nv xs)).length ≤ 137438953472) := Lib.hid (Nat.le_trans (nw_length_le ha.wd) hla)
  have HLB : Hid ((nw (nv ys)).length ≤ 137438953472) := Lib.hid (Nat.le_trans (nw_length_le hb.wd) hlb)
  generalize nv xs = A at *
  generalize nv ys = B at *
  generalize xs.length = n0 at *
  generalize ys.length = n1 at *
  have HA0 := Lib.hid hA0
  clear ha hb hla hlb hA0
  go_enter Tryz.func189, Tryz.ntmps189
  go_wp2_with fail
  refine (HTA.out _ (Kept.refl _)).mono ?_
  rintro e w1 ⟨⟨v1, rfl, hv1⟩, hk1⟩
  go_wp2_with fail
  refine (HTB.out _ hk1).mono ?_
  rintro e w2 ⟨⟨v2, rfl, hv2⟩, hk2⟩
  have H1 := Lib.hid (hv1.kept hk2)
  have H2 := Lib.hid hv2
  have HK2 := Lib.hid (hk1.trans hk2)
  clear hv1 hv2 hk1 hk2
  go_wp2_with fail
  go_loopg [0, 1] B (fun kx s0 s1 wr => ∃ (m n : Nat), Hid (WdsAt wr s0 (nw m)) ∧ Hid (WdsAt wr s1 (nw n)) ∧ n ≤ kx ∧ Hid (Nat.gcd m n = Nat.gcd A B ∧ m ≠ 0) ∧ Hid ((nw m).length ≤ 137438953472 ∧ (nw n).length ≤ 137438953472) ∧ Hid (Kept w wr))
  case atStart => exact ⟨A, B, H1, H2, Nat.le_refl _, Lib.hid ⟨rfl, HA0.out⟩, Lib.hid ⟨HLA.out, HLB.out⟩, HK2⟩
  case round =>
    obtain ⟨m, n, HS0, HS1, hkx, HG, HL, HK⟩ := hrel
    obtain ⟨a2, c2, rfl⟩ := HS0.out.shape
    obtain ⟨a3, c3, rfl⟩ := HS1.out.shape
    by_cases hn : n = 0
    · have HR : Hid (nw m = nw (Nat.gcd A B)) := Lib.hid (by rw [← HG.out.1, hn, Nat.gcd_zero_right])
      have hl : (nw n).length = 0 := by rw [hn, nw_zero]; rfl
      rw [hl]
      clear hl hn
      generalize hlm : (nw m).length = lm at *
      have HLM := Lib.hid hlm
      clear hlm
      go_wp2
      go_ret
      exact ⟨⟨_, rfl, by rw [← HR.out, ← HLM.out] ; first | exact HS0.out | (rw [HLM.out]; exact HS0.out)⟩, HK.out⟩
    · have hl : (nw n).length ≠ 0 := fun h => hn (nw_eq_nil.1 (List.eq_nil_of_length_eq_zero h))
      have HDV := Lib.hid (refdiv_any _ _ _ _ _ HS0.out HS1.out HL.out.1 HL.out.2 (by rw [nv_nw]; exact HG.out.2) (by rw [nv_nw]; exact hn))
      obtain ⟨r, hr⟩ : ∃ r, r = m % n := ⟨_, rfl⟩
      have hrn : r < n := by rw [hr]; exact Nat.mod_lt _ (by omega)
      have HN : Hid (Nat.gcd n r = Nat.gcd A B ∧ n ≠ 0) := Lib.hid ⟨by rw [← HG.out.1, hr, Nat.gcd_comm n, ← Nat.gcd_rec, Nat.gcd_comm], hn⟩
      have HLR : Hid ((nw n).length ≤ 137438953472 ∧ (nw r).length ≤ 137438953472) := Lib.hid ⟨HL.out.2, Nat.le_trans (nw_len_lt.2 (Nat.lt_trans hrn (nw_len_lt.1 (Nat.le_refl _)))) HL.out.2⟩
      have HR := Lib.hid hr
      obtain ⟨ln, hln⟩ : ∃ ln, ln = (nw n).length := ⟨_, rfl⟩
      have hlp : (0 : Int) < (ln : Int) := by omega
      have hlp2 : 0 < ln := by omega
      obtain ⟨lm, hlm⟩ : ∃ lm, lm = (nw m).length := ⟨_, rfl⟩
      rw [← hln, ← hlm] at HDV ⊢
      rw [← hln] at HS1
      clear hl hr hn hln hlm
      go_wp2_with fail
      refine HDV.out.mono ?_
      rintro e w3 ⟨⟨v3, v4, rfl, hv3, hv4⟩, hk3⟩
      rw [nv_nw, nv_nw, ← HR.out] at hv4
      have H4 := Lib.hid hv4
      have HS1' := Lib.hid (HS1.out.kept hk3)
      have HK3 := Lib.hid (HK.out.trans hk3)
      clear hv3 hv4 hk3
      go_wp2_with fail
      go_roundg r
      case measure => omega
      case rel => exact ⟨n, r, HS1', H4, Nat.le_refl _, HN, HLR, HK3⟩
end Go.Proofs.YthiemjodcklejaaGreatDoor

/-
  Walks: faultlineref02.Valid, Parts.
-/
namespace Go.Proofs.YthiemjodcklejaaGreatDoor
open Go.RowKit

theorem sgn_ge (q : Rat) : 0 ≤ sgnR q ↔ 0 ≤ q := by
  unfold sgnR
  by_cases h0 : q = 0
  · subst h0; simp
  · rw [if_neg h0]
    by_cases h1 : q < 0
    · rw [if_pos h1]
      constructor
      · intro h; omega
      · intro h; exact absurd h1 (Rat.not_lt.2 h)
    · rw [if_neg h1]
      exact ⟨fun _ => Rat.not_lt.1 h1, fun _ => by omega⟩
theorem sgn_le (q : Rat) : sgnR q ≤ 0 ↔ q ≤ 0 := by
  unfold sgnR
  by_cases h0 : q = 0
  · subst h0; simp
  · rw [if_neg h0]
    by_cases h1 : q < 0
    · rw [if_pos h1]
      exact ⟨fun _ => Rat.le_of_lt h1, fun _ => by omega⟩
    · rw [if_neg h1]
      constructor
      · intro h; omega
      · intro h; exact absurd (Rat.le_antisymm h (Rat.not_lt.1 h1)) h0
theorem mk_ge {a : Int} {d : Nat} (hd : d ≠ 0) : 0 ≤ mkRat a d ↔ 0 ≤ a := by
  have h : (0 : Int) < (d : Int) := by omega
  rw [← Rat.divInt_ofNat]
  exact Rat.divInt_nonneg_iff_of_pos_right h
theorem mk_le {a : Int} {d : Nat} (hd : d ≠ 0) : mkRat a d ≤ 0 ↔ a ≤ 0 := by
  have h1 : mkRat a d ≤ 0 ↔ 0 ≤ mkRat (-a) d := by
    rw [← Rat.neg_mkRat]
    constructor
    · intro h; have := Rat.neg_le_neg h; simpa using this
    · intro h; have := Rat.neg_le_neg h; simpa using this
  rw [h1, mk_ge hd]; omega
theorem mk_one {a : Int} {d : Nat} (hd : d ≠ 0) : mkRat a d - 1 = mkRat (a - d) d := by
  have h1 : (1 : Rat) = mkRat d d := by
    rw [← Rat.divInt_ofNat]
    exact (Rat.divInt_self' (by omega)).symm
  rw [h1, Rat.sub_eq_add_neg, Rat.neg_mkRat, Rat.mkRat_add_mkRat _ _ hd hd, ← Int.add_mul, Rat.mkRat_mul_right (by omega)]
  rfl
/-- Prob, said by signs. -/
theorem prob_sgn {r : Rw} (hw : r.Ok) : probR r = (validR r && (decide (0 ≤ sgnR (ratOf r)) && decide (sgnR (ratOf r - ((1 : Int) : Rat)) ≤ 0))) := by
  have e1 : (((1 : Int) : Rat)) = 1 := rfl
  rw [e1]
  cases hv : validR r with
  | false => unfold probR; rw [hv]; rfl
  | true =>
    unfold probR
    rw [hv, Bool.true_and, Bool.true_and]
    have hok := partsR_ok hw
    by_cases hn : r.num = []
    · have hz : ratOf r = 0 := by
        unfold ratOf partsR
        rw [if_neg (fun h => h.2 hn)]
        simp [sg_zero, nv, Rat.zero_mkRat]
      have h2 : r.neg = false := by
        unfold validR at hv
        by_cases hd : r.den = []
        · rw [if_pos ⟨hn, hd⟩] at hv; simpa using hv
        · rw [if_neg (fun h => hd h.2), hn] at hv; simp [plainW] at hv
      rw [hz, h2, hn]
      have a1 : sgnR 0 = 0 := rfl
      have a2 : sgnR (0 - 1) ≤ 0 := by
        have h1 : mkRat 0 1 - 1 = mkRat (0 - (1 : Nat)) 1 := mk_one (by omega)
        rw [Rat.zero_mkRat] at h1
        rw [h1]
        exact (sgn_le _).2 ((mk_le (by omega)).2 (by omega))
      rw [a1, nv_nil]
      simp [a2]
    · have hp : partsR r = (r.neg, r.num, r.den) := by unfold partsR; rw [if_pos ⟨hv, hn⟩]
      rw [hp] at hok
      simp only at hok
      have hn0 : nv r.num ≠ 0 := by
        intro h
        have := nw_nv hok.1 hok.2.2.2.1
        rw [h, nw_zero] at this
        exact hn this.symm
      have hr : ratOf r = mkRat (sg r.neg (nv r.num)) (nv r.den) := by unfold ratOf; rw [hp]
      have d1 : decide (0 ≤ sgnR (ratOf r)) = !r.neg := by
        have h : 0 ≤ sgnR (ratOf r) ↔ r.neg = false := by
          rw [hr]
          refine (sgn_ge _).trans ((mk_ge hok.2.2.1).trans ?_)
          unfold sg
          split
          · rename_i h1; rw [h1]; simp; omega
          · rename_i h1
            have : r.neg = false := by simpa using h1
            simp [this]
        rw [Bool.eq_iff_iff, decide_eq_true_iff, h]
        simp
      rw [d1]
      cases hg : r.neg with
      | true => rfl
      | false =>
        simp only [Bool.not_false, Bool.true_and]
        refine decide_eq_decide.2 ?_
        rw [hr, mk_one hok.2.2.1]
        refine Iff.symm ((sgn_le _).trans ((mk_le hok.2.2.1).trans ?_))
        unfold sg
        rw [hg, if_neg (by simp)]
        omega
theorem plain_last {xs : List Nat} {m : Nat} (h : xs.length = m + 1) : plainW xs = !(((xs.getD m 0 : Nat) : Int) == 0) := by
  unfold plainW
  rw [h, Nat.add_sub_cancel]
  by_cases h2 : xs.getD m 0 = 0
  · rw [h2]; simp
  · have : (((xs.getD m 0 : Nat) : Int) == 0) = false := by simp only [beq_eq_false_iff_ne, ne_eq]; omega
    rw [this]
    simp only [bne, beq_eq_false_iff_ne.2 h2]
    simp
set_option maxRecDepth 100000 in
set_option maxHeartbeats 4000000 in
theorem refvalid_any (v : Value) (r : Rw) (w : World) (hv : RatAt w v r) (hs : r.Short 137438953472) : Calls Tryz.prog 121 #[v] w fun e w' => e = .returned (.bool (validR r)) ∧ Kept w w' := by
  obtain ⟨neg, num, den⟩ := r
  obtain ⟨u1, u2, rfl, h1, h2⟩ := hv
  obtain ⟨hs1, hs2⟩ := hs
  simp only at h1 h2 hs1 hs2
  obtain ⟨a1, c1, rfl⟩ := h1.shape
  obtain ⟨a2, c2, rfl⟩ := h2.shape
  obtain ⟨n1, hn1⟩ : ∃ n1, n1 = num.length := ⟨_, rfl⟩
  obtain ⟨n2, hn2⟩ : ∃ n2, n2 = den.length := ⟨_, rfl⟩
  have hl1 : n1 ≤ 137438953472 := by omega
  have hl2 : n2 ≤ 137438953472 := by omega
  rw [← hn1] at h1 ⊢
  rw [← hn2] at h2 ⊢
  have HK0 : Hid (Kept w (w.alloc (.cells #[.bool neg, .slice a1 n1 c1, .slice a2 n2 c2] 31))) := Lib.hid ((Kept.refl w).alloc _)
  have e1n : n1 = 0 → num = [] := fun h => List.eq_nil_of_length_eq_zero (hn1.symm.trans h)
  have e2n : n2 = 0 → den = [] := fun h => List.eq_nil_of_length_eq_zero (hn2.symm.trans h)
  by_cases e1 : n1 = 0
  · by_cases e2 : n2 = 0
    · have hV : validR ⟨neg, num, den⟩ = !neg := by unfold validR; rw [if_pos ⟨e1n e1, e2n e2⟩]
      rw [hV]
      subst e1 e2
      clear h1 h2 hn1 hn2 hV e1n e2n
      go_enter Tryz.func121, Tryz.ntmps121
      go_wp2_with fail
      go_quiet (fail)
      go_wp2
      go_ret
      exact ⟨rfl, HK0.out.drewN _⟩
    · have hV : validR ⟨neg, num, den⟩ = false := by
        unfold validR
        rw [if_neg (fun h => e2 (hn2.trans (congrArg List.length h.2))), e1n e1]
        simp [plainW]
      rw [hV]
      have hb2 : ((n2 : Int) == 0) = false := by simp; exact e2
      subst e1
      clear h1 h2 hn1 hn2 hV e1n e2n e2
      go_enter Tryz.func121, Tryz.ntmps121
      go_wp2_with fail
      go_quiet (fail)
      go_wp2
      go_ret
      exact ⟨rfl, HK0.out.drewN _⟩
  · by_cases e2 : n2 = 0
    · have hV : validR ⟨neg, num, den⟩ = false := by
        unfold validR
        rw [if_neg (fun h => e1 (hn1.trans (congrArg List.length h.1))), e2n e2]
        simp [plainW]
      rw [hV]
      have hb1 : ((n1 : Int) == 0) = false := by simp; exact e1
      subst e2
      clear h1 h2 hn1 hn2 hV e1n e2n e1
      go_enter Tryz.func121, Tryz.ntmps121
      go_wp2_with fail
      go_quiet (fail)
      go_wp2
      go_ret
      exact ⟨rfl, HK0.out.drewN _⟩
    · have hV : validR ⟨neg, num, den⟩ = (plainW num && plainW den && (Nat.gcd (nv num) (nv den) == 1)) := by unfold validR; rw [if_neg (fun h => e1 (hn1.trans (congrArg List.length h.1)))]
      rw [hV]
      have hb1 : ((n1 : Int) == 0) = false := by simp; exact e1
      have hb2 : ((n2 : Int) == 0) = false := by simp; exact e2
      obtain ⟨m1, hm1⟩ : ∃ m1, n1 = m1 + 1 := ⟨n1 - 1, by omega⟩
      obtain ⟨m2, hm2⟩ : ∃ m2, n2 = m2 + 1 := ⟨n2 - 1, by omega⟩
      have hp1 := plain_last (hn1.symm.trans hm1)
      have hp2 := plain_last (hn2.symm.trans hm2)
      have HGC : Hid (plainW num = true → ∀ W, Kept w W → Calls Tryz.prog 189 #[.slice a1 n1 c1, .slice a2 n2 c2] W fun e w' => (∃ v, e = .returned v ∧ WdsAt w' v (nw (Nat.gcd (nv num) (nv den)))) ∧ Kept W w') := Lib.hid (fun hpl W hk => refgcd_any _ _ num den W (h1.kept hk) (h2.kept hk) hs1 hs2 (nv_ne_zero h1.wd hpl))
      obtain ⟨b1, o1, rfl, hc1⟩ := h1.get m1 (by omega)
      obtain ⟨b2, o2, rfl, hc2⟩ := h2.get m2 (by omega)
      obtain ⟨x1, hx1⟩ : ∃ x1, x1 = num.getD m1 0 := ⟨_, rfl⟩
      obtain ⟨x2, hx2⟩ : ∃ x2, x2 = den.getD m2 0 := ⟨_, rfl⟩
      rw [← hx1] at hc1 hp1
      rw [← hx2] at hc2 hp2
      have d1 := fun k => (HK0.out.drewN k).cell hc1
      have d2 := fun k => (HK0.out.drewN k).cell hc2
      have t1 : (n1 : Int) - 1 = (m1 : Int) := by omega
      have t2 : (n2 : Int) - 1 = (m2 : Int) := by omega
      have q1 : (m1 : Int) < (n1 : Int) := by omega
      have q2 : (m2 : Int) < (n2 : Int) := by omega
      have q1' : m1 < n1 := by omega
      have q2' : m2 < n2 := by omega
      generalize plainW num = p1 at *
      generalize plainW den = p2 at *
      generalize Nat.gcd (nv num) (nv den) = g at *
      obtain ⟨bg, hbg⟩ : ∃ bg, (g == 1) = bg := ⟨_, rfl⟩
      have HG1 : Hid (∀ W v1, WdsAt W v1 (nw g) → Calls Tryz.prog 188 #[v1] W fun e w' => (∃ k : Nat, e = .returned (.int .i64 k) ∧ ((k : Int) == 1) = bg) ∧ w' = W) := Lib.hid fun W v1 k1 =>
        (refbits_any v1 _ W k1).mono fun _ _ ⟨⟨k, h3, h4⟩, h5⟩ => ⟨⟨k, h3, by
          rw [nv_nw] at h4
          rw [← hbg]
          have := h4.iff1
          by_cases hg : g = 1
          · rw [this.2 hg, hg]; rfl
          · have hk : k ≠ 1 := fun e => hg (this.1 e)
            rw [show (g == 1) = false by simp; exact hg]
            simp only [beq_eq_false_iff_ne, ne_eq]; omega⟩, h5⟩
      rw [hbg]
      obtain ⟨z1, hz1⟩ : ∃ z1, ((x1 : Int) == 0) = z1 := ⟨_, rfl⟩
      obtain ⟨z2, hz2⟩ : ∃ z2, ((x2 : Int) == 0) = z2 := ⟨_, rfl⟩
      have y1 : ((x1 : Int) != 0) = !z1 := by simp only [bne, hz1]
      have y2 : ((x2 : Int) != 0) = !z2 := by simp only [bne, hz2]
      rw [hz1] at hp1
      rw [hz2] at hp2
      subst hp1 hp2
      clear h1 h2 hn1 hn2 hV e1n e2n e1 e2 hx1 hx2 hbg hm1 hm2 hs1 hs2
      cases z1 with
      | true =>
        simp only [Bool.not_true] at y1 ⊢
        go_enter Tryz.func121, Tryz.ntmps121
        go_wp2_with fail
        go_quiet (fail)
        go_wp2
        go_ret
        exact ⟨by simp, HK0.out.drewN _⟩
      | false =>
        have HGT := Lib.hid (HGC.out rfl)
        simp only [Bool.not_false] at y1 ⊢
        cases z2 with
        | true =>
          simp only [Bool.not_true] at y2 ⊢
          go_enter Tryz.func121, Tryz.ntmps121
          go_wp2_with fail
          go_quiet (fail)
          go_wp2
          go_ret
          exact ⟨by simp, HK0.out.drewN _⟩
        | false =>
          simp only [Bool.not_false] at y2 ⊢
          go_enter Tryz.func121, Tryz.ntmps121
          go_wp2_with fail
          go_quiet (fail)
          go_wp2_with (first
            | (go_at_call 189; (with_reducible refine (HGT.out _ (HK0.out.drewN _)).mono ?_); rintro e w2 ⟨⟨vg, rfl, hvg⟩, hk2⟩; have HVG := Lib.hid hvg; have HK2 := Lib.hid ((HK0.out.drewN _).trans hk2); clear hvg hk2)
            | (go_at_call 188; (with_reducible refine (HG1.out _ _ HVG.out).mono ?_); rintro e w4 ⟨⟨kb, rfl, hkb⟩, rfl⟩))
          go_ret
          exact ⟨by simp, HK2.out⟩
end Go.Proofs.YthiemjodcklejaaGreatDoor

/-
  Walks: faultlineref02.Parts, From.
-/
namespace Go.Proofs.YthiemjodcklejaaGreatDoor
open Go.RowKit

set_option maxRecDepth 100000 in
set_option maxHeartbeats 4000000 in
theorem refparts_any (v : Value) (r : Rw) (w : World) (hv : RatAt w v r) (hs : r.Short 137438953472) : Calls Tryz.prog 181 #[v] w fun e w' => (∃ u1 u2, e = .returned (.tuple #[.bool (partsR r).1, u1, u2]) ∧ WdsAt w' u1 (partsR r).2.1 ∧ WdsAt w' u2 (partsR r).2.2) ∧ Kept w w' := by
  have HVA := Lib.hid (fun W (hk : Kept w W) => refvalid_any v r W (hv.kept hk) hs)
  obtain ⟨neg, num, den⟩ := r
  obtain ⟨u1, u2, rfl, h1, h2⟩ := hv
  simp only at h1 h2
  obtain ⟨a1, c1, rfl⟩ := h1.shape
  obtain ⟨a2, c2, rfl⟩ := h2.shape
  obtain ⟨n1, hn1⟩ : ∃ n1, n1 = num.length := ⟨_, rfl⟩
  obtain ⟨n2, hn2⟩ : ∃ n2, n2 = den.length := ⟨_, rfl⟩
  rw [← hn1] at h1 HVA ⊢
  rw [← hn2] at h2 HVA ⊢
  have H1 := Lib.hid h1
  have H2 := Lib.hid h2
  obtain ⟨w1, hw1⟩ : ∃ w1, w1 = w.alloc (.cells #[.bool neg, .slice a1 n1 c1, .slice a2 n2 c2] 31) := ⟨_, rfl⟩
  have HR : Hid (RowAt w1 w.heap.size 31 [.bool neg, .slice a1 n1 c1, .slice a2 n2 c2]) := Lib.hid (by rw [hw1]; exact RowAt.made w #[.bool neg, .slice a1 n1 c1, .slice a2 n2 c2] 31)
  have HK0 : Hid (Kept w w1) := Lib.hid (by rw [hw1]; exact (Kept.refl w).alloc _)
  have q0 := HR.out.cell (i := 0) (by simp)
  have q1 := HR.out.cell (i := 1) (by simp)
  have q2 := HR.out.cell (i := 2) (by simp)
  simp only [List.getElem_cons_succ, List.getElem_cons_zero] at q0 q1 q2
  have HW1 := Lib.hid hw1
  clear hw1
  by_cases hg : validR ⟨neg, num, den⟩ = true ∧ num ≠ []
  · have hP : partsR ⟨neg, num, den⟩ = (neg, num, den) := by unfold partsR; rw [if_pos hg]
    rw [hP]
    rw [hg.1] at HVA
    have hb1 : ((n1 : Int) == 0) = false := by
      have : n1 ≠ 0 := fun h => hg.2 (List.eq_nil_of_length_eq_zero (hn1.symm.trans h))
      simp; exact this
    clear h1 h2 hP hg hn1 hn2 hs
    go_enter Tryz.func181, Tryz.ntmps181
    go_wp2_with fail
    rw [← HW1.out]
    refine (HVA.out _ HK0.out).mono ?_
    rintro e w2 ⟨rfl, hk2⟩
    have y0 := hk2.cell q0
    have y1 := hk2.cell q1
    have y2 := hk2.cell q2
    have HK2 := Lib.hid (HK0.out.trans hk2)
    clear hk2 q0 q1 q2
    go_wp2_with fail
    go_quiet (fail)
    go_wp2
    go_ret3
    exact ⟨⟨_, _, rfl, H1.out.kept (HK2.out.drewN _), H2.out.kept (HK2.out.drewN _)⟩, HK2.out.drewN _⟩
  · have hP : partsR ⟨neg, num, den⟩ = (false, [], [1]) := by unfold partsR; rw [if_neg hg]
    rw [hP]
    by_cases hvv : validR ⟨neg, num, den⟩ = true
    · have h0 : n1 = 0 := by
        rw [hn1]
        by_cases h : num = []
        · rw [h]; rfl
        · exact absurd ⟨hvv, h⟩ hg
      rw [hvv] at HVA
      subst h0
      clear h1 h2 hP hg hn1 hn2 hs hvv
      go_enter Tryz.func181, Tryz.ntmps181
      go_wp2_with fail
      rw [← HW1.out]
      refine (HVA.out _ HK0.out).mono ?_
      rintro e w2 ⟨rfl, hk2⟩
      have y1 := hk2.cell q1
      have HK2 := Lib.hid (HK0.out.trans hk2)
      clear hk2 q0 q1 q2
      go_wp2
      go_ret3
      exact ⟨⟨_, _, rfl, WdsAt.nil _, wds_new1 _ 1 (by omega)⟩, HK2.out.alloc _⟩
    · have hvf : validR ⟨neg, num, den⟩ = false := by simpa using hvv
      rw [hvf] at HVA
      clear h1 h2 hP hg hn1 hn2 hs hvv hvf
      go_enter Tryz.func181, Tryz.ntmps181
      go_wp2_with fail
      rw [← HW1.out]
      refine (HVA.out _ HK0.out).mono ?_
      rintro e w2 ⟨rfl, hk2⟩
      have HK2 := Lib.hid (HK0.out.trans hk2)
      clear hk2 q0 q1 q2
      go_wp2
      go_ret3
      exact ⟨⟨_, _, rfl, WdsAt.nil _, wds_new1 _ 1 (by omega)⟩, HK2.out.alloc _⟩
set_option maxRecDepth 100000 in
set_option maxHeartbeats 4000000 in
theorem reffrom_any (neg : Bool) (va vb : Value) (xs ys : List Nat) (w : World) (ha : WdsAt w va xs) (hb : WdsAt w vb ys) (hla : xs.length ≤ 137438953472) (hlb : ys.length ≤ 137438953472) (hd : nv ys ≠ 0) :
    Calls Tryz.prog 183 #[.bool neg, va, vb] w fun e w' => (∃ v, e = .returned (.tuple #[v, .int .i64 0]) ∧ RatAt w' v (formR neg (nv xs) (nv ys))) ∧ Kept w w' := by
  have HGL : Hid ((nw (Nat.gcd (nv xs) (nv ys))).length ≤ 137438953472) := Lib.hid (Nat.le_trans (nw_mono_len (Nat.le_of_dvd (by omega) (Nat.gcd_dvd_right _ _))) (Nat.le_trans (nw_length_le hb.wd) hlb))
  have HBD := Lib.hid (fun W (hk : Kept w W) => refbits_any vb ys W (hb.kept hk))
  have HB := Lib.hid (fun W (hk : Kept w W) => refbits_any va xs W (ha.kept hk))
  have HG := Lib.hid (fun W (hk : Kept w W) (h0 : nv xs ≠ 0) => refgcd_any va vb xs ys W (ha.kept hk) (hb.kept hk) hla hlb h0)
  have HD1 : Hid (∀ W vg, Kept w W → WdsAt W vg (nw (Nat.gcd (nv xs) (nv ys))) → nv xs ≠ 0 → Calls Tryz.prog 242 #[va, vg] W fun e w' => (∃ v1 v2, e = .returned (.tuple #[v1, v2, .int .i64 0]) ∧ WdsAt w' v1 (nw (nv xs / Nat.gcd (nv xs) (nv ys)))) ∧ Kept W w') := Lib.hid fun W vg hk hg h0 =>
    (refdiv_any va vg xs _ W (ha.kept hk) hg hla (HGL.out) h0 (by rw [nv_nw]; exact fun h => hd (Nat.eq_zero_of_gcd_eq_zero_right h))).mono fun _ _ ⟨⟨v1, v2, h1, h2, _⟩, h3⟩ => ⟨⟨v1, v2, h1, by rw [nv_nw] at h2; exact h2⟩, h3⟩
  have HD2 : Hid (∀ W vg, Kept w W → WdsAt W vg (nw (Nat.gcd (nv xs) (nv ys))) → Calls Tryz.prog 242 #[vb, vg] W fun e w' => (∃ v1 v2, e = .returned (.tuple #[v1, v2, .int .i64 0]) ∧ WdsAt w' v1 (nw (nv ys / Nat.gcd (nv xs) (nv ys)))) ∧ Kept W w') := Lib.hid fun W vg hk hg =>
    (refdiv_any vb vg ys _ W (hb.kept hk) hg hlb (HGL.out) hd (by rw [nv_nw]; exact fun h => hd (Nat.eq_zero_of_gcd_eq_zero_right h))).mono fun _ _ ⟨⟨v1, v2, h1, h2, _⟩, h3⟩ => ⟨⟨v1, v2, h1, by rw [nv_nw] at h2; exact h2⟩, h3⟩
  obtain ⟨a0, c0, rfl⟩ := ha.shape
  obtain ⟨a1, c1, rfl⟩ := hb.shape
  generalize xs.length = n0 at *
  generalize ys.length = n1 at *
  obtain ⟨w1, hw1⟩ : ∃ w1, w1 = w.alloc (.cells #[.bool false, .slice none 0 0, .slice none 0 0] 31) := ⟨_, rfl⟩
  have HR : Hid (RowAt w1 w.heap.size 31 [.bool false, .slice none 0 0, .slice none 0 0]) := Lib.hid (by rw [hw1]; exact RowAt.made w #[.bool false, .slice none 0 0, .slice none 0 0] 31)
  have HK0 : Hid (Kept w w1) := Lib.hid (by rw [hw1]; exact (Kept.refl w).alloc _)
  have HFX : Hid (FixAt w1 w.heap.size [.bool false, .slice none 0 0, .slice none 0 0]) := Lib.hid (by rw [hw1]; exact FixAt.made w #[.bool false, .slice none 0 0, .slice none 0 0] 31)
  have HW1 := Lib.hid hw1
  have HD0 := Lib.hid hd
  clear hw1 ha hb hla hlb hd
  by_cases h0 : nv xs = 0
  · have hF : formR neg (nv xs) (nv ys) = ⟨false, [], []⟩ := by unfold formR; rw [if_pos h0]
    rw [hF]
    have H0 := Lib.hid h0
    clear hF h0
    go_enter Tryz.func183, Tryz.ntmps183
    go_wp2_with fail
    rw [← HW1.out]
    refine (HBD.out _ HK0.out).mono ?_
    rintro e w2 ⟨⟨kd, rfl, hkd⟩, rfl⟩
    have hkd0 : ((kd : Int) == 0) = false := by
      have : kd ≠ 0 := fun h => HD0.out (hkd.iff0.1 h)
      simp; exact this
    clear hkd
    go_wp2_with fail
    refine (HB.out _ HK0.out).mono ?_
    rintro e w2 ⟨⟨k, rfl, hk⟩, rfl⟩
    have hk0 : k = 0 := hk.iff0.2 H0.out
    subst hk0
    clear hk
    have g0 := HR.out.cell (i := 0) (by simp)
    have g1 := HR.out.cell (i := 1) (by simp)
    have g2 := HR.out.cell (i := 2) (by simp)
    have f0 := HR.out.free 0
    have f1 := HR.out.free 1
    have f2 := HR.out.free 2
    go_wp2
    have hF := (((HR.out.store 0 (.bool false)).store 1 (.slice none 0 0)).store 2 (.slice none 0 0))
    have y0 := hF.cell (i := 0) (by simp)
    have y1 := hF.cell (i := 1) (by simp)
    have y2 := hF.cell (i := 2) (by simp)
    simp only [List.set_cons_zero, List.set_cons_succ, List.getElem_cons_succ, List.getElem_cons_zero] at y0 y1 y2
    refine bodyPost_ret (v := .tuple #[.agg #[.bool false, .slice none 0 0, .slice none 0 0], .int .i64 0]) ?_ rfl ⟨⟨_, rfl, RatAt.zero _⟩, ?_⟩
    · simp [results, Tryz.results183, go_sem, y0, y1, y2]
    · exact ((HK0.out.store (Nat.le_refl _) _ _).store (Nat.le_refl _) _ _).store (Nat.le_refl _) _ _
  · have hF : formR neg (nv xs) (nv ys) = ⟨neg, nw (nv xs / Nat.gcd (nv xs) (nv ys)), nw (nv ys / Nat.gcd (nv xs) (nv ys))⟩ := by unfold formR; rw [if_neg h0]
    rw [hF]
    have H0 := Lib.hid h0
    clear hF h0
    generalize nw (nv xs / Nat.gcd (nv xs) (nv ys)) = P at *
    generalize nw (nv ys / Nat.gcd (nv xs) (nv ys)) = Q at *
    generalize nw (Nat.gcd (nv xs) (nv ys)) = G at *
    go_enter Tryz.func183, Tryz.ntmps183
    go_wp2_with fail
    rw [← HW1.out]
    refine (HBD.out _ HK0.out).mono ?_
    rintro e w2 ⟨⟨kd, rfl, hkd⟩, rfl⟩
    have hkd0 : ((kd : Int) == 0) = false := by
      have : kd ≠ 0 := fun h => HD0.out (hkd.iff0.1 h)
      simp; exact this
    clear hkd
    go_wp2_with fail
    refine (HB.out _ HK0.out).mono ?_
    rintro e w2 ⟨⟨k, rfl, hk⟩, rfl⟩
    have hk0 : ((k : Int) == 0) = false := by
      have : k ≠ 0 := fun h => H0.out (hk.iff0.1 h)
      simp; exact this
    clear hk
    go_wp2_with fail
    refine (HG.out _ HK0.out H0.out).mono ?_
    rintro e w3 ⟨⟨v3, rfl, hv3⟩, hk3⟩
    have HV3 := Lib.hid hv3
    have HK3 := Lib.hid (HK0.out.trans hk3)
    have HR3 := Lib.hid (HR.out.kept hk3)
    have HFX3 := Lib.hid (HFX.out.kept hk3)
    clear hv3 hk3 hk0
    go_wp2_with fail
    refine (HD1.out _ _ HK3.out HV3.out H0.out).mono ?_
    rintro e w4 ⟨⟨v4, v5, rfl, hv4⟩, hk4⟩
    have HV4 := Lib.hid hv4
    have HV3' := Lib.hid (HV3.out.kept hk4)
    have HK4 := Lib.hid (HK3.out.trans hk4)
    have HR4 := Lib.hid (HR3.out.kept hk4)
    have HFX4 := Lib.hid (HFX3.out.kept hk4)
    clear hv4 hk4
    go_wp2_with fail
    refine (HD2.out _ _ HK4.out HV3'.out).mono ?_
    rintro e w5 ⟨⟨v6, v7, rfl, hv6⟩, hk5⟩
    have HV6 := Lib.hid hv6
    have HV4' := Lib.hid (HV4.out.kept hk5)
    have HK5 := Lib.hid (HK4.out.trans hk5)
    have HR5 := Lib.hid (HR4.out.kept hk5)
    have HFX5 := Lib.hid (HFX4.out.kept hk5)
    clear hv6 hk5
    obtain ⟨a4, c4, rfl⟩ := HV4'.out.shape
    obtain ⟨a6, c6, rfl⟩ := HV6.out.shape
    have g0 := HR5.out.cell (i := 0) (by simp)
    have g1 := HR5.out.cell (i := 1) (by simp)
    have g2 := HR5.out.cell (i := 2) (by simp)
    have f0 := HR5.out.free 0
    have f1 := HR5.out.free 1
    have f2 := HR5.out.free 2
    go_wp2
    have hF := (((HR5.out.store 0 (.bool neg)).store 1 (.slice a4 P.length c4)).store 2 (.slice a6 Q.length c6))
    have y0 := hF.cell (i := 0) (by simp)
    have y1 := hF.cell (i := 1) (by simp)
    have y2 := hF.cell (i := 2) (by simp)
    simp only [List.set_cons_zero, List.set_cons_succ, List.getElem_cons_succ, List.getElem_cons_zero] at y0 y1 y2
    have hO := (((OnlyAt.refl w.heap.size w5).store 0 (.bool neg)).store 1 (.slice a4 P.length c4)).store 2 (.slice a6 Q.length c6)
    have z1 := HV4'.out.apart HFX5.out (by simp) hO
    have z2 := HV6.out.apart HFX5.out (by simp) hO
    refine bodyPost_ret (v := .tuple #[.agg #[.bool neg, .slice a4 P.length c4, .slice a6 Q.length c6], .int .i64 0]) ?_ rfl ⟨⟨_, rfl, ⟨_, _, rfl, z1, z2⟩⟩, ?_⟩
    · simp [results, Tryz.results183, go_sem, y0, y1, y2]
    · exact ((HK5.out.store (Nat.le_refl _) _ _).store (Nat.le_refl _) _ _).store (Nat.le_refl _) _ _
end Go.Proofs.YthiemjodcklejaaGreatDoor

/-
  Walks: faultlineref02.size, Make (of a whole number), Of.
-/
namespace Go.Proofs.YthiemjodcklejaaGreatDoor
open Go.RowKit

/-- As rat_stored, with a block that was made besides. -/
theorem rat_stored2 {w : World} {g : Nat} {T : TypeId} {v1 v2 : Value} {r : Rw} (C : Obj) (hr : RowAt w g T [.bool false, .slice none 0 0, .slice none 0 0]) (hf : FixAt w g [.bool false, .slice none 0 0, .slice none 0 0]) (h1 : WdsAt w v1 r.num) (h2 : WdsAt w v2 r.den) :
    ((((w.setCell ⟨g, 0, none⟩ (.bool r.neg)).setCell ⟨g, 1, none⟩ v1).setCell ⟨g, 2, none⟩ v2).alloc C).cell? ⟨g, 0, none⟩ = some (.bool r.neg) ∧
    ((((w.setCell ⟨g, 0, none⟩ (.bool r.neg)).setCell ⟨g, 1, none⟩ v1).setCell ⟨g, 2, none⟩ v2).alloc C).cell? ⟨g, 1, none⟩ = some v1 ∧
    ((((w.setCell ⟨g, 0, none⟩ (.bool r.neg)).setCell ⟨g, 1, none⟩ v1).setCell ⟨g, 2, none⟩ v2).alloc C).cell? ⟨g, 2, none⟩ = some v2 ∧
    RatAt ((((w.setCell ⟨g, 0, none⟩ (.bool r.neg)).setCell ⟨g, 1, none⟩ v1).setCell ⟨g, 2, none⟩ v2).alloc C) (.agg #[.bool r.neg, v1, v2]) r := by
  obtain ⟨y0, y1, y2, hra⟩ := rat_stored hr hf h1 h2
  have hk := (Kept.refl (((w.setCell ⟨g, 0, none⟩ (.bool r.neg)).setCell ⟨g, 1, none⟩ v1).setCell ⟨g, 2, none⟩ v2)).alloc C
  exact ⟨hk.cell y0, hk.cell y1, hk.cell y2, hra.kept hk⟩
set_option maxRecDepth 100000 in
set_option maxHeartbeats 2000000 in
theorem refsz_any (n : Nat) (w : World) (hn : n < 9223372036854775808) : Calls Tryz.prog 243 #[.int .i64 n] w fun e w' => (∃ v' xs, e = .returned v' ∧ WdsAt w' v' xs ∧ nv xs = n ∧ xs.length = 2) ∧ Kept w w' := by
  obtain ⟨x, hx⟩ : ∃ x, x = n % 4294967296 := ⟨_, rfl⟩
  obtain ⟨y, hy⟩ : ∃ y, y = n / 4294967296 := ⟨_, rfl⟩
  have hx9 : x < 4294967296 := by omega
  have hy9 : y < 4294967296 := by omega
  have HV : Hid (nv [x, y] = n) := Lib.hid (by simp [nv]; omega)
  have e0 : IntKind.u64.wrap (n : Int) = (n : Int) := by rw [IntKind.wrap_u64]; omega
  have e1 : IntKind.u32.wrap (n : Int) = (x : Int) := by rw [IntKind.wrap_u32]; omega
  have e2 : (n : Int) / 4294967296 = (y : Int) := by omega
  have e3 : IntKind.u32.wrap (y : Int) = (y : Int) := by rw [IntKind.wrap_u32]; omega
  have hp : ¬ (n : Int) < 0 := by omega
  clear hx hy
  go_enter Tryz.func243, Tryz.ntmps243
  go_wp2
  go_ret
  exact ⟨⟨_, rfl, [x, y], wds_new2 w x y hx9 hy9, HV.out, rfl⟩, (Kept.refl _).alloc _⟩
set_option maxRecDepth 100000 in
set_option maxHeartbeats 4000000 in
theorem refmake_any (n : Nat) (w : World) (hn : n < 9223372036854775808) : Calls Tryz.prog 190 #[.int .i64 n, .int .i64 1] w fun e w' => (∃ v', e = .returned (.tuple #[v', .int .i64 0]) ∧ RatAt w' v' (canR ((n : Int) : Rat))) ∧ Kept w w' := by
  have HS1 := Lib.hid (fun W => refsz_any n W hn)
  have HS2 : Hid (∀ W, Calls Tryz.prog 243 #[.int .i64 1] W fun e w' => (∃ v' xs, e = .returned v' ∧ WdsAt w' v' xs ∧ nv xs = 1 ∧ xs.length = 2) ∧ Kept W w') := Lib.hid fun W => refsz_any 1 W (by omega)
  obtain ⟨R, hR⟩ : ∃ R, R = canR ((n : Int) : Rat) := ⟨_, rfl⟩
  have HFO : Hid (∀ W u1 u2 xs ys, WdsAt W u1 xs → WdsAt W u2 ys → nv xs = n → nv ys = 1 → xs.length = 2 → ys.length = 2 → Calls Tryz.prog 183 #[.bool false, u1, u2] W fun e w' => (∃ v, e = .returned (.tuple #[v, .int .i64 0]) ∧ RatAt w' v R) ∧ Kept W w') := Lib.hid fun W u1 u2 xs ys k1 k2 n1 n2 l1 l2 => by
    have h := reffrom_any false u1 u2 xs ys W k1 k2 (by omega) (by omega) (by omega)
    rw [n1, n2, form_can _ _ _ (by omega), show sg false n = (n : Int) from rfl, Rat.mkRat_one, ← hR] at h
    exact h
  rw [← hR]
  obtain ⟨w2, hw2⟩ : ∃ w2, w2 = w.alloc (.cells #[.bool false, .slice none 0 0, .slice none 0 0] 31) := ⟨_, rfl⟩
  have HR : Hid (RowAt w2 w.heap.size 31 [.bool false, .slice none 0 0, .slice none 0 0]) := Lib.hid (by rw [hw2]; exact RowAt.made w #[.bool false, .slice none 0 0, .slice none 0 0] 31)
  have HFX : Hid (FixAt w2 w.heap.size [.bool false, .slice none 0 0, .slice none 0 0]) := Lib.hid (by rw [hw2]; exact FixAt.made w #[.bool false, .slice none 0 0, .slice none 0 0] 31)
  have HK0 : Hid (Kept w w2) := Lib.hid (by rw [hw2]; exact (Kept.refl w).alloc _)
  have HW2 := Lib.hid hw2
  have hn0 : ¬ (n : Int) < 0 := by omega
  clear hw2 hR
  go_enter Tryz.func190, Tryz.ntmps190
  go_wp2_with fail
  rw [← HW2.out]
  refine (HS1.out _).mono ?_
  rintro e w3 ⟨⟨v3, xs, rfl, hv3, hn3, hl3⟩, hk3⟩
  have HV3 := Lib.hid hv3
  have HN3 := Lib.hid (And.intro hn3 hl3)
  have HR3 := Lib.hid (HR.out.kept hk3)
  have HF3 := Lib.hid (HFX.out.kept hk3)
  have HK3 := Lib.hid (HK0.out.trans hk3)
  clear hv3 hk3 hn3 hl3
  go_wp2_with fail
  refine (HS2.out _).mono ?_
  rintro e w4 ⟨⟨v4, ys, rfl, hv4, hn4, hl4⟩, hk4⟩
  have HV4 := Lib.hid hv4
  have HN4 := Lib.hid (And.intro hn4 hl4)
  have HV3' := Lib.hid (HV3.out.kept hk4)
  have HR4 := Lib.hid (HR3.out.kept hk4)
  have HF4 := Lib.hid (HF3.out.kept hk4)
  have HK4 := Lib.hid (HK3.out.trans hk4)
  clear hv4 hk4 hn4 hl4
  go_wp2_with fail
  refine (HFO.out _ _ _ _ _ HV3'.out HV4.out HN3.out.1 HN4.out.1 HN3.out.2 HN4.out.2).mono ?_
  rintro e w10 ⟨⟨v10, rfl, hv10⟩, hk10⟩
  have hr10 := HR4.out.kept hk10
  have HF10 := Lib.hid (HF4.out.kept hk10)
  have HK10 := Lib.hid (HK4.out.trans hk10)
  obtain ⟨u7, u8, rfl, k7, k8⟩ := hv10
  obtain ⟨a7, c7, rfl⟩ := k7.shape
  obtain ⟨a8, c8, rfl⟩ := k8.shape
  obtain ⟨y0, y1, y2, hra⟩ := rat_stored hr10 HF10.out k7 k8
  have g0 := hr10.cell (i := 0) (by simp)
  have g1 := hr10.cell (i := 1) (by simp)
  have g2 := hr10.cell (i := 2) (by simp)
  have f0 := hr10.free 0
  have f1 := hr10.free 1
  have f2 := hr10.free 2
  have HRA := Lib.hid hra
  have Y0 := Lib.hid y0
  have Y1 := Lib.hid y1
  have Y2 := Lib.hid y2
  clear hra y0 y1 y2 k7 k8 hr10 hk10
  generalize R.num.length = n7 at *
  generalize R.den.length = n8 at *
  go_wp2
  refine bodyPost_ret (v := .tuple #[.agg #[.bool R.neg, .slice a7 n7 c7, .slice a8 n8 c8], .int .i64 0]) ?_ rfl ⟨⟨_, rfl, HRA.out⟩, ?_⟩
  · simp [results, Tryz.results190, go_sem, Y0.out, Y1.out, Y2.out]
  · exact ((HK10.out.store (by omega) _ _).store (by omega) _ _).store (by omega) _ _
set_option maxRecDepth 100000 in
set_option maxHeartbeats 4000000 in
theorem refof_any (n : Nat) (w : World) (hn : n < 9223372036854775808) : Calls Tryz.prog 124 #[.int .i64 n] w fun e w' => (∃ v', e = .returned v' ∧ RatAt w' v' (canR ((n : Int) : Rat))) ∧ Kept w w' := by
  have HMA := Lib.hid (fun W => refmake_any n W hn)
  generalize canR ((n : Int) : Rat) = R at *
  obtain ⟨w2, hw2⟩ : ∃ w2, w2 = w.alloc (.cells #[.bool false, .slice none 0 0, .slice none 0 0] 31) := ⟨_, rfl⟩
  have HR : Hid (RowAt w2 w.heap.size 31 [.bool false, .slice none 0 0, .slice none 0 0]) := Lib.hid (by rw [hw2]; exact RowAt.made w #[.bool false, .slice none 0 0, .slice none 0 0] 31)
  have HFX : Hid (FixAt w2 w.heap.size [.bool false, .slice none 0 0, .slice none 0 0]) := Lib.hid (by rw [hw2]; exact FixAt.made w #[.bool false, .slice none 0 0, .slice none 0 0] 31)
  have HK0 : Hid (Kept w w2) := Lib.hid (by rw [hw2]; exact (Kept.refl w).alloc _)
  have HW2 := Lib.hid hw2
  clear hw2
  go_enter Tryz.func124, Tryz.ntmps124
  go_wp2_with fail
  rw [← HW2.out]
  refine (HMA.out _).mono ?_
  rintro e w10 ⟨⟨v10, rfl, hv10⟩, hk10⟩
  have hr10 := HR.out.kept hk10
  have HF10 := Lib.hid (HFX.out.kept hk10)
  have HK10 := Lib.hid (HK0.out.trans hk10)
  obtain ⟨u7, u8, rfl, k7, k8⟩ := hv10
  obtain ⟨a7, c7, rfl⟩ := k7.shape
  obtain ⟨a8, c8, rfl⟩ := k8.shape
  obtain ⟨y0, y1, y2, hra⟩ := rat_stored2 (.cells #[.bool R.neg, .slice a7 R.num.length c7, .slice a8 R.den.length c8] 31) hr10 HF10.out k7 k8
  have hlt := hr10.lt
  have HRA := Lib.hid hra
  have Y0 := Lib.hid y0
  have Y1 := Lib.hid y1
  have Y2 := Lib.hid y2
  have g0 := hr10.cell (i := 0) (by simp)
  have g1 := hr10.cell (i := 1) (by simp)
  have g2 := hr10.cell (i := 2) (by simp)
  have f0 := hr10.free 0
  have f1 := hr10.free 1
  have f2 := hr10.free 2
  clear hra y0 y1 y2 k7 k8 hr10 hk10
  generalize R.num.length = n7 at *
  generalize R.den.length = n8 at *
  go_wp2
  refine bodyPost_ret (v := .agg #[.bool R.neg, .slice a7 n7 c7, .slice a8 n8 c8]) ?_ rfl ⟨⟨_, rfl, HRA.out⟩, ?_⟩
  · simp [results, Tryz.results124, go_sem, Y0.out, Y1.out, Y2.out]
  · exact (((HK10.out.store (by omega) _ _).store (by omega) _ _).store (by omega) _ _).alloc _
end Go.Proofs.YthiemjodcklejaaGreatDoor

/-
  Walks: faultlineref02.Neg, Sign, Mul.
-/
namespace Go.Proofs.YthiemjodcklejaaGreatDoor
open Go.RowKit

set_option maxRecDepth 100000 in
set_option maxHeartbeats 4000000 in
theorem refneg_any (v : Value) (r : Rw) (w : World) (hv : RatAt w v r) (hs : r.Short 137438953472) : Calls Tryz.prog 140 #[v] w fun e w' => (∃ v', e = .returned v' ∧ RatAt w' v' (canR (- ratOf r))) ∧ Kept w w' := by
  have HPA := Lib.hid (fun W (hk : Kept w W) => refparts_any v r W (hv.kept hk) hs)
  have hok := partsR_ok hv.ok
  have hsh := parts_short hs (by omega)
  obtain ⟨R, hR⟩ : ∃ R, R = canR (- ratOf r) := ⟨_, rfl⟩
  have HFO : Hid (∀ W u1 u2, WdsAt W u1 (partsR r).2.1 → WdsAt W u2 (partsR r).2.2 → Calls Tryz.prog 183 #[.bool (!(partsR r).1), u1, u2] W fun e w' => (∃ v, e = .returned (.tuple #[v, .int .i64 0]) ∧ RatAt w' v R) ∧ Kept W w') := Lib.hid fun W u1 u2 k1 k2 => by
    have h := reffrom_any (!(partsR r).1) u1 u2 _ _ W k1 k2 hsh.1 hsh.2 hok.2.2.1
    rw [form_can _ _ _ hok.2.2.1, ratOf_neg, ← hR] at h
    exact h
  rw [← hR]
  obtain ⟨u1, u2, rfl, h1, h2⟩ := hv
  obtain ⟨a1, c1, rfl⟩ := h1.shape
  obtain ⟨a2, c2, rfl⟩ := h2.shape
  obtain ⟨w2, hw2⟩ : ∃ w2, w2 = (w.alloc (.cells #[.bool r.neg, .slice a1 r.num.length c1, .slice a2 r.den.length c2] 31)).alloc (.cells #[.bool false, .slice none 0 0, .slice none 0 0] 31) := ⟨_, rfl⟩
  have HM := Lib.hid (res_made w (.cells #[.bool r.neg, .slice a1 r.num.length c1, .slice a2 r.den.length c2] 31))
  rw [← hw2] at HM
  have HW2 := Lib.hid hw2
  generalize (partsR r).1 = s at *
  generalize (partsR r).2.1 = N at *
  generalize (partsR r).2.2 = D at *
  generalize r.num.length = n1 at *
  generalize r.den.length = n2 at *
  generalize r.neg = neg at *
  clear hok hsh hR h1 h2 hs hw2
  go_enter Tryz.func140, Tryz.ntmps140
  go_wp2_with fail
  rw [← HW2.out]
  refine (HPA.out _ HM.out.2.2).mono ?_
  rintro e w3 ⟨⟨u3, u4, rfl, hu3, hu4⟩, hk3⟩
  have H3 := Lib.hid hu3
  have H4 := Lib.hid hu4
  have HR3 := Lib.hid (HM.out.1.kept hk3)
  have HF3 := Lib.hid (HM.out.2.1.kept hk3)
  have HK3 := Lib.hid (HM.out.2.2.trans hk3)
  clear hu3 hu4 hk3
  go_wp2_with fail
  refine (HFO.out _ _ _ H3.out H4.out).mono ?_
  rintro e w4 ⟨⟨v4, rfl, hv4⟩, hk4⟩
  have HV4 := Lib.hid hv4
  have hr4 := HR3.out.kept hk4
  have HR4 := Lib.hid hr4
  have HF4 := Lib.hid (HF3.out.kept hk4)
  have HK4 := Lib.hid (HK3.out.trans hk4)
  obtain ⟨u5, u6, rfl, k5, k6⟩ := hv4
  obtain ⟨a5, c5, rfl⟩ := k5.shape
  obtain ⟨a6, c6, rfl⟩ := k6.shape
  obtain ⟨y0, y1, y2, hra⟩ := rat_stored2 (.cells #[.bool R.neg, .slice a5 R.num.length c5, .slice a6 R.den.length c6] 31) hr4 HF4.out k5 k6
  have hlt := hr4.lt
  have g0 := hr4.cell (i := 0) (by simp)
  have g1 := hr4.cell (i := 1) (by simp)
  have g2 := hr4.cell (i := 2) (by simp)
  have f0 := hr4.free 0
  have f1 := hr4.free 1
  have f2 := hr4.free 2
  have HRA := Lib.hid hra
  have Y0 := Lib.hid y0
  have Y1 := Lib.hid y1
  have Y2 := Lib.hid y2
  clear hra y0 y1 y2 k5 k6 hr4 hk4
  generalize R.num.length = n5 at *
  generalize R.den.length = n6 at *
  go_wp2
  refine bodyPost_ret (v := .agg #[.bool R.neg, .slice a5 n5 c5, .slice a6 n6 c6]) ?_ rfl ⟨⟨_, rfl, HRA.out⟩, ?_⟩
  · simp [results, Tryz.results140, go_sem, Y0.out, Y1.out, Y2.out]
  · exact (((HK4.out.store (by omega) _ _).store (by omega) _ _).store (by omega) _ _).alloc _
set_option maxRecDepth 100000 in
set_option maxHeartbeats 4000000 in
theorem refsign_any (v : Value) (r : Rw) (w : World) (hv : RatAt w v r) (hs : r.Short 137438953472) : Calls Tryz.prog 122 #[v] w fun e w' => e = .returned (.int .i64 (sgnR (ratOf r))) ∧ Kept w w' := by
  have HPA := Lib.hid (fun W (hk : Kept w W) => refparts_any v r W (hv.kept hk) hs)
  obtain ⟨k1, k2⟩ := sign_ratOf hv.ok
  obtain ⟨u1, u2, rfl, h1, h2⟩ := hv
  obtain ⟨a1, c1, rfl⟩ := h1.shape
  obtain ⟨a2, c2, rfl⟩ := h2.shape
  have HK0 : Hid (Kept w (w.alloc (.cells #[.bool r.neg, .slice a1 r.num.length c1, .slice a2 r.den.length c2] 31))) := Lib.hid ((Kept.refl w).alloc _)
  obtain ⟨ln, hln⟩ : ∃ ln, ln = (partsR r).2.1.length := ⟨_, rfl⟩
  have HLN := Lib.hid hln
  rw [← hln] at k1 k2
  obtain ⟨S, hS⟩ : ∃ S, S = sgnR (ratOf r) := ⟨_, rfl⟩
  rw [← hS]
  have hSS : S = if ln = 0 then 0 else if (partsR r).1 = true then -1 else 1 := by
    rw [hS]
    unfold sgnR
    by_cases h : ln = 0
    · rw [if_pos h, if_pos (k1.1 h)]
    · rw [if_neg h, if_neg (fun e => h (k1.2 e))]
      by_cases h3 : (partsR r).1 = true
      · rw [if_pos h3, if_pos ((k2 h).1 h3)]
      · rw [if_neg h3, if_neg (fun e => h3 ((k2 h).2 e))]
  generalize (partsR r).1 = s at *
  generalize (partsR r).2.1 = N at *
  generalize (partsR r).2.2 = D at *
  generalize r.num.length = n1 at *
  generalize r.den.length = n2 at *
  generalize r.neg = neg at *
  clear h1 h2 hs hS k1 k2 hln
  by_cases h0 : ln = 0
  · have hE : S = 0 := by rw [hSS, if_pos h0]
    subst h0 hE
    clear hSS
    go_enter Tryz.func122, Tryz.ntmps122
    go_wp2_with fail
    refine (HPA.out _ HK0.out).mono ?_
    rintro e w3 ⟨⟨u3, u4, rfl, hu3, hu4⟩, hk3⟩
    obtain ⟨a3, c3, rfl⟩ := hu3.shape
    rw [← HLN.out]
    have HK3 := Lib.hid (HK0.out.trans hk3)
    clear hu3 hu4 hk3
    go_wp2
    go_ret
    exact ⟨rfl, HK3.out⟩
  · have hb : ((ln : Int) == 0) = false := by simp; exact h0
    cases s with
    | true =>
      have hE : S = -1 := by rw [hSS, if_neg h0, if_pos rfl]
      subst hE
      clear hSS h0
      go_enter Tryz.func122, Tryz.ntmps122
      go_wp2_with fail
      refine (HPA.out _ HK0.out).mono ?_
      rintro e w3 ⟨⟨u3, u4, rfl, hu3, hu4⟩, hk3⟩
      obtain ⟨a3, c3, rfl⟩ := hu3.shape
      rw [← HLN.out]
      have HK3 := Lib.hid (HK0.out.trans hk3)
      clear hu3 hu4 hk3
      go_wp2
      go_ret
      exact ⟨rfl, HK3.out⟩
    | false =>
      have hE : S = 1 := by rw [hSS, if_neg h0, if_neg (by simp)]
      subst hE
      clear hSS h0
      go_enter Tryz.func122, Tryz.ntmps122
      go_wp2_with fail
      refine (HPA.out _ HK0.out).mono ?_
      rintro e w3 ⟨⟨u3, u4, rfl, hu3, hu4⟩, hk3⟩
      obtain ⟨a3, c3, rfl⟩ := hu3.shape
      rw [← HLN.out]
      have HK3 := Lib.hid (HK0.out.trans hk3)
      clear hu3 hu4 hk3
      go_wp2
      go_ret
      exact ⟨rfl, HK3.out⟩
end Go.Proofs.YthiemjodcklejaaGreatDoor
