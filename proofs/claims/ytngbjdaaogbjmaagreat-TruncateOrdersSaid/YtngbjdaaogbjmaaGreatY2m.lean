import Derived.Test.YtngbjdaaogbjmaaGreatK3
import Derived.Test.YtngbjdaaogbjmaaGreatK4
/-
  Walks: the rows of truncate: flip, node, within, size.
-/
namespace Go.Proofs.YtngbjdaaogbjmaaGreat
open Go.RowKit

set_option maxRecDepth 100000 in
theorem tflip_lo_on (e l h j : Nat) (hl : l < 18446744073709551616) (hj : j < 64) (w : World) (y : Nat) (hy : y = l ||| 2 ^ j) :
    Calls Tryz.prog 133 #[.agg #[.int .i64 e, .int .u64 l, .int .u64 h], .int .i64 (j : Nat), .bool true] w fun e' w' => e' = .returned (.agg #[.int .i64 e, .int .u64 y, .int .u64 h]) ∧ Kept w w' := by
  obtain ⟨i, hi⟩ : ∃ i, i = j := ⟨_, rfl⟩
  rw [← hi]
  have q4 : ¬ (j : Int) < 0 := by omega
  have p1 := pow_u64 j hj
  have hp := pow_lt64 hj
  obtain ⟨z, hz⟩ : ∃ z, z = 2 ^ j := ⟨_, rfl⟩
  rw [← hz] at p1 hp hy
  have p2 := or_u64 l z hl hp
  rw [← hy] at p2
  clear hz hy
  subst hi
  have g1 : ¬ 64 ≤ (i : Int) := by omega
  go_enter Tryz.func133, Tryz.ntmps133
  go_wp2
  go_region
  all_goals go_wp2
  all_goals exact bodyPost_ret (v := .agg #[.int .i64 e, .int .u64 y, .int .u64 h]) (by simp [results, Tryz.results133, go_sem]) rfl ⟨rfl, by repeat (first | exact Kept.refl _ | apply Kept.drew | apply Kept.alloc | refine Kept.store ?_ (by simp) _ _)⟩
set_option maxRecDepth 100000 in
theorem tflip_hi_on (e l h j : Nat) (hl : h < 18446744073709551616) (hj : j < 64) (w : World) (y : Nat) (hy : y = h ||| 2 ^ j) :
    Calls Tryz.prog 133 #[.agg #[.int .i64 e, .int .u64 l, .int .u64 h], .int .i64 (64 + j : Nat), .bool true] w fun e' w' => e' = .returned (.agg #[.int .i64 e, .int .u64 l, .int .u64 y]) ∧ Kept w w' := by
  obtain ⟨i, hi⟩ : ∃ i, i = 64 + j := ⟨_, rfl⟩
  rw [← hi]
  have q4 : ¬ (j : Int) < 0 := by omega
  have p1 := pow_u64 j hj
  have hp := pow_lt64 hj
  obtain ⟨z, hz⟩ : ∃ z, z = 2 ^ j := ⟨_, rfl⟩
  rw [← hz] at p1 hp hy
  have p2 := or_u64 h z hl hp
  rw [← hy] at p2
  clear hz hy
  have g1 : 64 ≤ (i : Int) := by omega
  have g2 : (i : Int) - 64 = (j : Int) := by omega
  have g3 : IntKind.i64.wrap ((i : Int) - 64) = (j : Int) := by rw [IntKind.wrap_i64]; omega
  clear hi
  go_enter Tryz.func133, Tryz.ntmps133
  go_wp2
  go_region
  all_goals go_wp2
  all_goals exact bodyPost_ret (v := .agg #[.int .i64 e, .int .u64 l, .int .u64 y]) (by simp [results, Tryz.results133, go_sem]) rfl ⟨rfl, by repeat (first | exact Kept.refl _ | apply Kept.drew | apply Kept.alloc | refine Kept.store ?_ (by simp) _ _)⟩
set_option maxRecDepth 100000 in
theorem tflip_lo_off (e l h j : Nat) (hl : l < 18446744073709551616) (hj : j < 64) (w : World) (y : Nat) (hy : y = sdiff l (2 ^ j)) :
    Calls Tryz.prog 133 #[.agg #[.int .i64 e, .int .u64 l, .int .u64 h], .int .i64 (j : Nat), .bool false] w fun e' w' => e' = .returned (.agg #[.int .i64 e, .int .u64 y, .int .u64 h]) ∧ Kept w w' := by
  obtain ⟨i, hi⟩ : ∃ i, i = j := ⟨_, rfl⟩
  rw [← hi]
  have q4 : ¬ (j : Int) < 0 := by omega
  have p1 := pow_u64 j hj
  have hp := pow_lt64 hj
  obtain ⟨z, hz⟩ : ∃ z, z = 2 ^ j := ⟨_, rfl⟩
  rw [← hz] at p1 hp hy
  have p2 := andNot_u64 l z hl hp
  rw [← hy] at p2
  clear hz hy
  subst hi
  have g1 : ¬ 64 ≤ (i : Int) := by omega
  go_enter Tryz.func133, Tryz.ntmps133
  go_wp2
  go_region
  all_goals go_wp2
  all_goals exact bodyPost_ret (v := .agg #[.int .i64 e, .int .u64 y, .int .u64 h]) (by simp [results, Tryz.results133, go_sem]) rfl ⟨rfl, by repeat (first | exact Kept.refl _ | apply Kept.drew | apply Kept.alloc | refine Kept.store ?_ (by simp) _ _)⟩
set_option maxRecDepth 100000 in
theorem tflip_hi_off (e l h j : Nat) (hl : h < 18446744073709551616) (hj : j < 64) (w : World) (y : Nat) (hy : y = sdiff h (2 ^ j)) :
    Calls Tryz.prog 133 #[.agg #[.int .i64 e, .int .u64 l, .int .u64 h], .int .i64 (64 + j : Nat), .bool false] w fun e' w' => e' = .returned (.agg #[.int .i64 e, .int .u64 l, .int .u64 y]) ∧ Kept w w' := by
  obtain ⟨i, hi⟩ : ∃ i, i = 64 + j := ⟨_, rfl⟩
  rw [← hi]
  have q4 : ¬ (j : Int) < 0 := by omega
  have p1 := pow_u64 j hj
  have hp := pow_lt64 hj
  obtain ⟨z, hz⟩ : ∃ z, z = 2 ^ j := ⟨_, rfl⟩
  rw [← hz] at p1 hp hy
  have p2 := andNot_u64 h z hl hp
  rw [← hy] at p2
  clear hz hy
  have g1 : 64 ≤ (i : Int) := by omega
  have g2 : (i : Int) - 64 = (j : Int) := by omega
  have g3 : IntKind.i64.wrap ((i : Int) - 64) = (j : Int) := by rw [IntKind.wrap_i64]; omega
  clear hi
  go_enter Tryz.func133, Tryz.ntmps133
  go_wp2
  go_region
  all_goals go_wp2
  all_goals exact bodyPost_ret (v := .agg #[.int .i64 e, .int .u64 l, .int .u64 y]) (by simp [results, Tryz.results133, go_sem]) rfl ⟨rfl, by repeat (first | exact Kept.refl _ | apply Kept.drew | apply Kept.alloc | refine Kept.store ?_ (by simp) _ _)⟩
theorem twithin_any {a b : Nat} (ha : RowLt 152 a) (hb : RowLt 152 b) (w : World) : Calls Tryz.prog 139 #[rowV a, rowV b] w fun e w' => e = .returned (.bool (subN a b)) ∧ ∃ C O, w' = (w.alloc C).alloc O := by
  have b1 := sub_i64 (evW a) (evW b) (by have := evW_lt a; omega) (by have := evW_lt b; omega)
  have b2 := sub_u64 (loW a) (loW b) (loW_lt a) (loW_lt b)
  have b3 := sub_u64 (hiW a) (hiW b) (hiW_lt ha) (hiW_lt hb)
  rw [sub_row]
  generalize subN (evW a) (evW b) = x1 at *
  generalize subN (loW a) (loW b) = x2 at *
  generalize subN (hiW a) (hiW b) = x3 at *
  unfold rowV
  generalize evW a = ea at *
  generalize evW b = eb at *
  generalize loW a = la at *
  generalize loW b = lb at *
  generalize hiW a = za at *
  generalize hiW b = zb at *
  clear ha hb
  cases x1 with
  | false =>
    go_enter Tryz.func139, Tryz.ntmps139
    go_wp2
    go_ret
    exact ⟨rfl, _, _, rfl⟩
  | true =>
    cases x2 with
    | false =>
      go_enter Tryz.func139, Tryz.ntmps139
      go_wp2
      go_ret
      exact ⟨rfl, _, _, rfl⟩
    | true =>
      go_enter Tryz.func139, Tryz.ntmps139
      go_wp2
      go_ret
      exact ⟨by cases x3 <;> rfl, _, _, rfl⟩
theorem tsize_any {c : Nat} (hc : RowLt 152 c) (w : World) : Calls Tryz.prog 136 #[rowV c] w fun e w' => e = .returned (.int .i64 (pc c)) ∧ ∃ C n, w' = (w.alloc C).drewN n := by
  have h1 : ∀ W, Calls Tryz.prog 19 #[.int .i64 (evW c)] W fun e w' => e = .returned (.int .i64 (pc (evW c))) ∧ w' = W := fun W => (count_any (evW_lt c) W).mono fun _ _ h => ⟨h.1, h.2.symm⟩
  have h2 : ∀ W, Calls Tryz.prog 101 #[.int .u64 (loW c)] W fun e w' => e = .returned (.int .i64 (pc (loW c))) ∧ w' = W := fun W => (ones64_any _ W).mono fun _ _ h => ⟨by rw [h.1, pcS_word _ (loW_lt c)], h.2.symm⟩
  have h3 : ∀ W, Calls Tryz.prog 101 #[.int .u64 (hiW c)] W fun e w' => e = .returned (.int .i64 (pc (hiW c))) ∧ w' = W := fun W => (ones64_any _ W).mono fun _ _ h => ⟨by rw [h.1, pcS_word _ (hiW_lt hc)], h.2.symm⟩
  have e1 := pc_lt 24 (evW c) (evW_lt c)
  have e2 := pc_lt 64 (loW c) (loW_lt c)
  have e3 := pc_lt 64 (hiW c) (hiW_lt hc)
  rw [pc_row c]
  unfold rowV
  generalize pc (evW c) = p1 at *
  generalize pc (loW c) = p2 at *
  generalize pc (hiW c) = p3 at *
  generalize evW c = ea at *
  generalize loW c = la at *
  generalize hiW c = za at *
  have H1 := Lib.hid h1
  have H2 := Lib.hid h2
  have H3 := Lib.hid h3
  have w1 : IntKind.i64.wrap ((p1 : Int) + (p2 : Int)) = (p1 : Int) + (p2 : Int) := by rw [IntKind.wrap_i64]; omega
  have w2 : IntKind.i64.wrap ((p1 : Int) + (p2 : Int) + (p3 : Int)) = (p1 : Int) + (p2 : Int) + (p3 : Int) := by rw [IntKind.wrap_i64]; omega
  clear h1 h2 h3 hc
  go_enter Tryz.func136, Tryz.ntmps136
  go_wp2
  go_quiet ((first | (go_at_call 19; exact Calls.quiet_of_same (H1.out _)) | (go_at_call 101; (with_reducible exact Calls.quiet_of_same (H2.out _))) | (go_at_call 101; (with_reducible exact Calls.quiet_of_same (H3.out _)))))
  go_wp2
  go_ret
  exact ⟨by simp, _, _, rfl⟩
end Go.Proofs.YtngbjdaaogbjmaaGreat
