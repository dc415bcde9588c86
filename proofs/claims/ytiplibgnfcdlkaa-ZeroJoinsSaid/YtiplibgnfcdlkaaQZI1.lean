import Derived.Test.YtiplibgnfcdlkaaQ24
/-
  Plain: each node that is made for a family holds the sets behind a prefix.
-/
namespace Go.Proofs.Ytiplibgnfcdlkaa

/-- A node's family is that of a prefix. -/
def ZPre (N : List ZNode) (F : Nat → Bool) (j i : Nat) : Prop :=
  j ≤ zev N (i + 2) ∧ ∃ p, (∀ b, p.testBit b = true → j ≤ b ∧ b < zev N (i + 2)) ∧ ∀ t, (∀ b, t.testBit b = true → zev N (i + 2) ≤ b) → zm N (i + 2) t = F (p ^^^ t)
theorem ZPre.ext {N E : List ZNode} {F : Nat → Bool} {j i : Nat} (h : ZPre N F j i) (hg : ZGood N) (hg2 : ZGood (N ++ E)) (hi : i < N.length) : ZPre (N ++ E) F j i := by
  unfold ZPre
  rw [zev_ext E (by omega)]
  obtain ⟨h0, p, h1, h2⟩ := h
  refine ⟨h0, p, h1, fun t ht => ?_⟩
  rw [zm_ext hg hg2 _ (by omega)]
  exact h2 t ht
theorem zput_new (N : List ZNode) (n : ZNode) : (zput N n).1 = N ∨ (zput N n).1 = N ++ [n] ∧ (zput N n).2 = N.length + 2 := by
  unfold zput
  by_cases h0 : n.hi = 0
  · rw [if_pos h0]; exact .inl rfl
  rw [if_neg h0]
  by_cases h1 : n ∈ N
  · rw [if_pos h1]; exact .inl rfl
  rw [if_neg h1]
  exact .inr ⟨rfl, Nat.add_comm _ _⟩
theorem bit_not {s v : Nat} (h : ∀ b, s.testBit b = true → v < b) : s.testBit v = false := by
  cases e : s.testBit v with
  | false => rfl
  | true => have := h v e; omega
theorem zadd_pre : ∀ k, k ≤ 24 → ∀ (M : List ZNode) (F : Nat → Bool), ZGood M → ZFrom (24 - k) F → ∀ i, M.length ≤ i → i < (zadd k M F).1.length → ZPre (zadd k M F).1 F (24 - k) i := by
  intro k
  induction k with
  | zero =>
    intro _ M F hg hF i h1 h2
    have e : (zadd 0 M F).1 = M := rfl
    rw [e] at h2
    omega
  | succ k ih =>
    intro hk M F hg hF i h1 h2
    have e : 24 - (k + 1) = 23 - k := by omega
    have e2 : 24 - k = (23 - k) + 1 := by omega
    have p3 := zadd_put (k + 1) hk M F hg hF
    rw [e] at hF p3 ⊢
    have p1 := zadd_put k (by omega) M (zlo F (23 - k)) hg (hF.lo (by omega))
    have i1 := ih (by omega) M (zlo F (23 - k)) hg (hF.lo (by omega))
    have p2 := zadd_put k (by omega) _ (zhi F (23 - k)) p1.good (hF.hi (by omega))
    have i2 := ih (by omega) _ (zhi F (23 - k)) p1.good (hF.hi (by omega))
    have hz : zadd (k + 1) M F = zput (zadd k (zadd k M (zlo F (23 - k))).1 (zhi F (23 - k))).1 ⟨23 - k, (zadd k M (zlo F (23 - k))).2, (zadd k (zadd k M (zlo F (23 - k))).1 (zhi F (23 - k))).2⟩ := rfl
    generalize zadd (k + 1) M F = C at *
    generalize zadd k M (zlo F (23 - k)) = A at *
    generalize zadd k A.1 (zhi F (23 - k)) = B at *
    generalize 23 - k = v at *
    rw [e2] at i1 i2
    obtain ⟨E1, hE1⟩ := p2.ext
    have hn := zput_new B.1 ⟨v, A.2, B.2⟩
    rw [← hz] at hn
    have hB : i < B.1.length → ZPre B.1 F v i := fun hi => by
      by_cases ha : i < A.1.length
      · obtain ⟨h0, p, q1, q2⟩ := i1 i h1 ha
        have hA : ZPre A.1 F v i := by
          refine ⟨by omega, p, fun b hb => ⟨by have := (q1 b hb).1; omega, (q1 b hb).2⟩, fun t ht => ?_⟩
          rw [q2 t ht]
          unfold zlo
          have a1 : p.testBit v = false := bit_not fun b hb => (q1 b hb).1
          have a2 : t.testBit v = false := bit_not fun b hb => Nat.lt_of_lt_of_le (by omega) (ht b hb)
          rw [Nat.testBit_xor, a1, a2]
          simp
        rw [hE1]
        exact hA.ext p1.good (by rw [← hE1]; exact p2.good) ha
      · obtain ⟨h0, p, q1, q2⟩ := i2 i (by omega) hi
        have a1 : p.testBit v = false := bit_not fun b hb => (q1 b hb).1
        refine ⟨by omega, p ^^^ 2 ^ v, fun b hb => ?_, fun t ht => ?_⟩
        · by_cases hbv : b = v
          · omega
          · rw [flip_same p v b hbv] at hb
            have := q1 b hb
            omega
        · rw [q2 t ht]
          unfold zhi
          have a2 : t.testBit v = false := bit_not fun b hb => Nat.lt_of_lt_of_le (by omega) (ht b hb)
          rw [Nat.testBit_xor, a1, a2, Nat.xor_assoc, Nat.xor_comm t (2 ^ v), ← Nat.xor_assoc]
          simp
    rcases hn with hn | ⟨hn, hn2⟩
    · rw [hn] at h2 ⊢
      exact hB h2
    · by_cases hb : i < B.1.length
      · rw [hn]
        exact (hB hb).ext p2.good (by rw [← hn]; exact p3.good) hb
      · have hi : C.2 = i + 2 := by rw [hn, List.length_append] at h2; simp at h2; omega
        unfold ZPre
        rw [← hi]
        refine ⟨p3.ev, 0, fun b hb => by simp at hb, fun t ht => ?_⟩
        rw [p3.mem, Nat.zero_xor]
end Go.Proofs.Ytiplibgnfcdlkaa
