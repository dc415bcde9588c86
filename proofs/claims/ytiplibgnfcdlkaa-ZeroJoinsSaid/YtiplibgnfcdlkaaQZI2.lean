import Derived.Test.YtiplibgnfcdlkaaQZI1
/-
  Plain: the diagram of at most 400 sets has at most 4096 nodes.
-/
namespace Go.Proofs.Ytiplibgnfcdlkaa

/-- A node and its prefix: the sets of the family with that prefix. -/
structure ZPf (N : List ZNode) (F : Nat → Bool) (i p : Nat) : Prop where
  lt : p < 2 ^ zev N (i + 2)
  mem : ∀ s, s % 2 ^ zev N (i + 2) = p → zm N (i + 2) (s ^^^ p) = F s
  back : ∀ t, zm N (i + 2) t = true → (t ^^^ p) % 2 ^ zev N (i + 2) = p ∧ F (t ^^^ p) = true
theorem zpf_of {N : List ZNode} {F : Nat → Bool} {i : Nat} (hg : ZGood N) (hi : i < N.length) (h : ZPre N F 0 i) : ∃ p, ZPf N F i p := by
  obtain ⟨_, p, h1, h2⟩ := h
  have hp : p < 2 ^ zev N (i + 2) := by
    refine Nat.lt_pow_two_of_testBit _ fun b hb => ?_
    cases e : p.testBit b with
    | false => rfl
    | true => have := (h1 b e).2; omega
  refine ⟨p, hp, fun s hs => ?_, fun t ht => ?_⟩
  · rw [h2]
    · rw [← Nat.xor_assoc, Nat.xor_comm p s, Nat.xor_assoc, Nat.xor_self, Nat.xor_zero]
    · intro b hb
      rcases Nat.lt_or_ge b (zev N (i + 2)) with h | h
      · exfalso
        have e := Nat.testBit_mod_two_pow s (zev N (i + 2)) b
        rw [hs, decide_eq_true h, Bool.true_and] at e
        rw [Nat.testBit_xor, e] at hb
        simp at hb
      · exact h
  · have hl := zm_low hg (i + 2) (by omega) t ht
    refine ⟨Nat.eq_of_testBit_eq fun b => ?_, ?_⟩
    · rw [Nat.testBit_mod_two_pow]
      by_cases h : b < zev N (i + 2)
      · rw [decide_eq_true h, Bool.true_and, Nat.testBit_xor]
        have e : t.testBit b = false := by
          cases e : t.testBit b with
          | false => rfl
          | true => have := (hl b e).1; omega
        rw [e]; simp
      · rw [decide_eq_false h, Bool.false_and]
        cases e : p.testBit b with
        | false => rfl
        | true => have := (h1 b e).2; omega
    · rw [Nat.xor_comm, ← h2 t fun b hb => (hl b hb).1]; exact ht
/-- Two nodes of one level with one prefix. -/
theorem ZPf.one {N : List ZNode} {F : Nat → Bool} {i j p : Nat} (hg : ZGood N) (hi : i < N.length) (hj : j < N.length) (h : ZPf N F i p) (k : ZPf N F j p) (hv : zev N (i + 2) = zev N (j + 2)) : i = j := by
  have := zm_inj hg (i + 2) (by omega) (j + 2) (by omega) fun t => by
    cases e : zm N (i + 2) t with
    | true =>
      obtain ⟨a, b⟩ := h.back t e
      have := k.mem (t ^^^ p) (by rw [← hv]; exact a)
      rw [Nat.xor_assoc, Nat.xor_self, Nat.xor_zero] at this
      rw [this, b]
    | false =>
      cases e2 : zm N (j + 2) t with
      | false => rfl
      | true =>
        obtain ⟨a, b⟩ := k.back t e2
        have := h.mem (t ^^^ p) (by rw [hv]; exact a)
        rw [Nat.xor_assoc, Nat.xor_self, Nat.xor_zero] at this
        rw [← this, e] at b
        cases b
  omega
theorem nodup_map_on {α β : Type} {f : α → β} : ∀ {l : List α}, l.Nodup → (∀ x ∈ l, ∀ y ∈ l, f x = f y → x = y) → (l.map f).Nodup := by
  intro l
  induction l with
  | nil => intro _ _; simp
  | cons a l ih =>
    intro hn hf
    rw [List.nodup_cons] at hn
    rw [List.map_cons, List.nodup_cons]
    refine ⟨fun hm => ?_, ih hn.2 fun x hx y hy => hf x (List.mem_cons_of_mem _ hx) y (List.mem_cons_of_mem _ hy)⟩
    obtain ⟨y, hy, e⟩ := List.mem_map.1 hm
    have := hf y (List.mem_cons_of_mem _ hy) a List.mem_cons_self e
    exact hn.1 (this ▸ hy)
theorem len_below {α : Type} {l : List α} {f : α → Nat} {n : Nat} (hn : l.Nodup) (hf : ∀ x ∈ l, ∀ y ∈ l, f x = f y → x = y) (hb : ∀ x ∈ l, f x < n) : l.length ≤ n := by
  have h := zlen_le (nodup_map_on hn hf) (b := List.range n) fun x hx => by
    obtain ⟨y, hy, rfl⟩ := List.mem_map.1 hx
    exact List.mem_range.2 (hb y hy)
  rw [List.length_map, List.length_range] at h
  exact h
theorem len_onto {α : Type} {l : List α} {f : α → Nat} {B : List Nat} (hn : l.Nodup) (hf : ∀ x ∈ l, ∀ y ∈ l, f x = f y → x = y) (hb : ∀ x ∈ l, f x ∈ B) : l.length ≤ B.length := by
  have h := zlen_le (nodup_map_on hn hf) (b := B) fun x hx => by
    obtain ⟨y, hy, rfl⟩ := List.mem_map.1 hx
    exact hb y hy
  rw [List.length_map] at h
  exact h
theorem filter_split {α : Type} (p q : α → Bool) : ∀ l : List α, (∀ x ∈ l, q x = !p x) → (l.filter p).length + (l.filter q).length = l.length := by
  intro l
  induction l with
  | nil => intro _; rfl
  | cons a l ih =>
    intro h
    have := ih fun x hx => h x (List.mem_cons_of_mem _ hx)
    have ha := h a List.mem_cons_self
    rw [List.filter_cons, List.filter_cons, ha]
    cases p a <;> simp <;> omega
end Go.Proofs.Ytiplibgnfcdlkaa
