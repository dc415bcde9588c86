import Derived.Test.YtiplibgnfcdlkaaQ01
/-
  Plain: tables of zero-suppressed nodes: the sets of a reference; equal families have equal references.
-/
namespace Go.Proofs.Ytiplibgnfcdlkaa

/-- An event, the reference of the sets without it, that of the sets with it (without it). -/
structure ZNode where
  v : Nat
  lo : Nat
  hi : Nat
  deriving DecidableEq
/-- The event of a reference; constants are behind all events. -/
def zev (N : List ZNode) (r : Nat) : Nat := if r < 2 then 24 else (N.map ZNode.v).getD (r - 2) 24
/-- A table: what each node may name, each node once. -/
structure ZGood (N : List ZNode) : Prop where
  ev : ∀ i (h : i < N.length), N[i].v < 24
  lo : ∀ i (h : i < N.length), N[i].lo ≤ 1 + i ∧ N[i].v < zev N N[i].lo
  hi : ∀ i (h : i < N.length), N[i].hi ≤ 1 + i ∧ N[i].hi ≠ 0 ∧ N[i].v < zev N N[i].hi
  one : ∀ i j (hi : i < N.length) (hj : j < N.length), N[i] = N[j] → i = j
/-- Whether a set is in the family of a reference (so many steps at most). -/
def zmem (N : List ZNode) : Nat → Nat → Nat → Bool
  | _, 0, _ => false
  | _, 1, s => s == 0
  | 0, _ + 2, _ => false
  | k + 1, r + 2, s => match N[r]? with
    | none => false
    | some n => if s.testBit n.v = true then zmem N k n.hi (s ^^^ 2 ^ n.v) else zmem N k n.lo s
def zm (N : List ZNode) (r s : Nat) : Bool := zmem N r r s
theorem zmem_zero (N : List ZNode) (k s : Nat) : zmem N k 0 s = false := by unfold zmem; rfl
theorem zmem_one (N : List ZNode) (k s : Nat) : zmem N k 1 s = (s == 0) := by unfold zmem; rfl
theorem zmem_step {N : List ZNode} {k r : Nat} (h : r < N.length) (s : Nat) : zmem N (k + 1) (r + 2) s = if s.testBit N[r].v = true then zmem N k N[r].hi (s ^^^ 2 ^ N[r].v) else zmem N k N[r].lo s := by
  rw [zmem, List.getElem?_eq_getElem h]
theorem zmem_out {N : List ZNode} {k r : Nat} (h : N.length ≤ r) (s : Nat) : zmem N k (r + 2) s = false := by
  cases k with
  | zero => rw [zmem]
  | succ k => rw [zmem, List.getElem?_eq_none h]
theorem zmem_fuel {N : List ZNode} (hg : ZGood N) : ∀ r k k', r ≤ k → r ≤ k' → ∀ s, zmem N k r s = zmem N k' r s := by
  intro r
  induction r using Nat.strongRecOn with
  | ind r ih =>
    intro k k' hk hk' s
    match r, ih, hk, hk' with
    | 0, _, _, _ => rw [zmem_zero, zmem_zero]
    | 1, _, _, _ => rw [zmem_one, zmem_one]
    | r + 2, ih, hk, hk' =>
      by_cases h : r < N.length
      · obtain ⟨k, rfl⟩ : ∃ x, k = x + 1 := ⟨k - 1, by omega⟩
        obtain ⟨k', rfl⟩ : ∃ x, k' = x + 1 := ⟨k' - 1, by omega⟩
        have h1 := (hg.lo r h).1
        have h2 := (hg.hi r h).1
        rw [zmem_step h, zmem_step h, ih N[r].hi (by omega) k k' (by omega) (by omega), ih N[r].lo (by omega) k k' (by omega) (by omega)]
      · rw [zmem_out (by omega), zmem_out (by omega)]
theorem zm_zero (N : List ZNode) (s : Nat) : zm N 0 s = false := zmem_zero N 0 s
theorem zm_one (N : List ZNode) (s : Nat) : zm N 1 s = (s == 0) := zmem_one N 1 s
theorem zm_node {N : List ZNode} (hg : ZGood N) {i : Nat} (h : i < N.length) (s : Nat) : zm N (i + 2) s = if s.testBit N[i].v = true then zm N N[i].hi (s ^^^ 2 ^ N[i].v) else zm N N[i].lo s := by
  unfold zm
  rw [zmem_step h, zmem_fuel hg N[i].hi (i + 1) N[i].hi (by have := (hg.hi i h).1; omega) (Nat.le_refl _), zmem_fuel hg N[i].lo (i + 1) N[i].lo (by have := (hg.lo i h).1; omega) (Nat.le_refl _)]
theorem zev_node {N : List ZNode} {i : Nat} (h : i < N.length) : zev N (i + 2) = N[i].v := by
  unfold zev
  rw [if_neg (by omega), show i + 2 - 2 = i by omega, List.getD_eq_getElem?_getD, List.getElem?_map, List.getElem?_eq_getElem h]
  rfl
theorem xor_bit (s v j : Nat) : (s ^^^ 2 ^ v).testBit j = if v = j then !s.testBit j else s.testBit j := by
  rw [Nat.testBit_xor, Nat.testBit_two_pow]
  by_cases h : v = j
  · rw [if_pos h, decide_eq_true h]; cases s.testBit j <;> rfl
  · rw [if_neg h, decide_eq_false h]; cases s.testBit j <;> rfl
/-- A set's events lie behind the reference's. -/
theorem zm_low {N : List ZNode} (hg : ZGood N) : ∀ r, r ≤ 1 + N.length → ∀ s, zm N r s = true → ∀ j, s.testBit j = true → zev N r ≤ j ∧ j < 24 := by
  intro r
  induction r using Nat.strongRecOn with
  | ind r ih =>
    intro hr s hs j hj
    match r, ih, hr, hs with
    | 0, _, _, hs => rw [zm_zero] at hs; cases hs
    | 1, _, _, hs =>
      rw [zm_one, beq_iff_eq] at hs
      rw [hs, Nat.zero_testBit] at hj
      cases hj
    | i + 2, ih, hr, hs =>
      have h : i < N.length := by omega
      rw [zm_node hg h] at hs
      rw [zev_node h]
      obtain ⟨l1, l2⟩ := hg.lo i h
      obtain ⟨h1, _, h2⟩ := hg.hi i h
      have hv := hg.ev i h
      by_cases hb : s.testBit N[i].v = true
      · rw [if_pos hb] at hs
        by_cases e : N[i].v = j
        · exact ⟨by omega, by omega⟩
        · have := ih N[i].hi (by omega) (by omega) _ hs j (by rw [xor_bit, if_neg e]; exact hj)
          omega
      · rw [if_neg hb] at hs
        have := ih N[i].lo (by omega) (by omega) _ hs j hj
        omega
/-- All references but 0 have a set. -/
theorem zm_some {N : List ZNode} (hg : ZGood N) : ∀ r, r ≤ 1 + N.length → r ≠ 0 → ∃ s, zm N r s = true := by
  intro r
  induction r using Nat.strongRecOn with
  | ind r ih =>
    intro hr h0
    match r, ih, hr, h0 with
    | 0, _, _, h0 => exact absurd rfl h0
    | 1, _, _, _ => exact ⟨0, by rw [zm_one]; rfl⟩
    | i + 2, ih, hr, _ =>
      have h : i < N.length := by omega
      obtain ⟨h1, h2, h3⟩ := hg.hi i h
      obtain ⟨s, hs⟩ := ih N[i].hi (by omega) (by omega) h2
      refine ⟨s ^^^ 2 ^ N[i].v, ?_⟩
      have hb : s.testBit N[i].v = false := by
        cases e : s.testBit N[i].v with
        | false => rfl
        | true => have := zm_low hg _ (by omega) s hs _ e; omega
      rw [zm_node hg h, if_pos (by rw [xor_bit, if_pos rfl, hb]; rfl), Nat.xor_assoc, Nat.xor_self, Nat.xor_zero]
      exact hs
/-- A node has a set with its event. -/
theorem zm_top {N : List ZNode} (hg : ZGood N) {i : Nat} (h : i < N.length) : ∃ s, zm N (i + 2) s = true ∧ s.testBit N[i].v = true := by
  obtain ⟨h1, h2, h3⟩ := hg.hi i h
  obtain ⟨s, hs⟩ := zm_some hg N[i].hi (by omega) h2
  have hb : s.testBit N[i].v = false := by
    cases e : s.testBit N[i].v with
    | false => rfl
    | true => have := zm_low hg _ (by omega) s hs _ e; omega
  have hb2 : (s ^^^ 2 ^ N[i].v).testBit N[i].v = true := by rw [xor_bit, if_pos rfl, hb]; rfl
  refine ⟨s ^^^ 2 ^ N[i].v, ?_, hb2⟩
  rw [zm_node hg h, if_pos hb2, Nat.xor_assoc, Nat.xor_self, Nat.xor_zero]
  exact hs
/-- Equal families have equal references. -/
theorem zm_inj {N : List ZNode} (hg : ZGood N) : ∀ a, a ≤ 1 + N.length → ∀ b, b ≤ 1 + N.length → (∀ s, zm N a s = zm N b s) → a = b := by
  have base : ∀ a b, a ≤ 1 + N.length → b ≤ 1 + N.length → a < 2 → (∀ s, zm N a s = zm N b s) → a = b := by
    intro a b ha hb h2 he
    match b, hb, he with
    | 0, _, he =>
      match a, h2, he with
      | 0, _, _ => rfl
      | 1, _, he => have := he 0; rw [zm_zero, zm_one] at this; cases this
    | 1, _, he =>
      match a, h2, he with
      | 0, _, he => have := he 0; rw [zm_zero, zm_one] at this; cases this
      | 1, _, _ => rfl
    | j + 2, hb, he =>
      exfalso
      obtain ⟨s, h1, h3⟩ := zm_top hg (show j < N.length by omega)
      rw [← he s] at h1
      match a, h2, h1 with
      | 0, _, h1 => rw [zm_zero] at h1; cases h1
      | 1, _, h1 =>
        rw [zm_one, beq_iff_eq] at h1
        rw [h1, Nat.zero_testBit] at h3
        cases h3
  intro a
  induction a using Nat.strongRecOn with
  | ind a ih =>
    intro ha b hb he
    by_cases h2 : a < 2
    · exact base a b ha hb h2 he
    · by_cases h3 : b < 2
      · exact (base b a hb ha h3 fun s => (he s).symm).symm
      · obtain ⟨i, rfl⟩ : ∃ i, a = i + 2 := ⟨a - 2, by omega⟩
        obtain ⟨j, rfl⟩ : ∃ j, b = j + 2 := ⟨b - 2, by omega⟩
        have hi : i < N.length := by omega
        have hj : j < N.length := by omega
        have hv : N[i].v = N[j].v := by
          obtain ⟨s, h4, h5⟩ := zm_top hg hi
          obtain ⟨t, h6, h7⟩ := zm_top hg hj
          rw [he s] at h4
          rw [← he t] at h6
          have h8 := zm_low hg _ hb s h4 _ h5
          have h9 := zm_low hg _ ha t h6 _ h7
          rw [zev_node hj] at h8
          rw [zev_node hi] at h9
          omega
        obtain ⟨li1, li2⟩ := hg.lo i hi
        obtain ⟨hi1, hi2, hi3⟩ := hg.hi i hi
        obtain ⟨lj1, lj2⟩ := hg.lo j hj
        obtain ⟨hj1, hj2, hj3⟩ := hg.hi j hj
        have off : ∀ r, r ≤ 1 + N.length → N[i].v < zev N r → ∀ s, s.testBit N[i].v = true → zm N r s = false := fun r hr hlt s hs => by
          cases e : zm N r s with
          | false => rfl
          | true => have := zm_low hg r hr s e _ hs; omega
        have hlo : N[i].lo = N[j].lo := ih N[i].lo (by omega) (by omega) N[j].lo (by omega) fun s => by
          cases hb : s.testBit N[i].v with
          | true => rw [off _ (by omega) li2 s hb, off _ (by omega) (by rw [hv]; exact lj2) s hb]
          | false =>
            have h4 := he s
            rw [zm_node hg hi, zm_node hg hj, if_neg (by rw [hb]; simp), if_neg (by rw [← hv, hb]; simp)] at h4
            exact h4
        have hhi : N[i].hi = N[j].hi := ih N[i].hi (by omega) (by omega) N[j].hi (by omega) fun s => by
          cases hb : s.testBit N[i].v with
          | true => rw [off _ (by omega) hi3 s hb, off _ (by omega) (by rw [hv]; exact hj3) s hb]
          | false =>
            have h4 := he (s ^^^ 2 ^ N[i].v)
            have hb2 : (s ^^^ 2 ^ N[i].v).testBit N[i].v = true := by rw [xor_bit, if_pos rfl, hb]; rfl
            rw [zm_node hg hi, zm_node hg hj, if_pos hb2, if_pos (by rw [← hv]; exact hb2), ← hv, Nat.xor_assoc, Nat.xor_self, Nat.xor_zero] at h4
            exact h4
        have heq : N[i] = N[j] := by
          cases hx : N[i] with
          | mk v1 l1 g1 =>
            cases hy : N[j] with
            | mk v2 l2 g2 =>
              rw [hx, hy] at hv hlo hhi
              simp only at hv hlo hhi
              rw [hv, hlo, hhi]
        have := hg.one i j hi hj heq
        omega
end Go.Proofs.Ytiplibgnfcdlkaa

/-
  Plain: a table that grows: old references keep their families; Make.
-/
namespace Go.Proofs.Ytiplibgnfcdlkaa

theorem zev_ext {N : List ZNode} (E : List ZNode) {r : Nat} (hr : r ≤ 1 + N.length) : zev (N ++ E) r = zev N r := by
  unfold zev
  by_cases h : r < 2
  · rw [if_pos h, if_pos h]
  · rw [if_neg h, if_neg h, List.map_append, List.getD_eq_getElem?_getD, List.getD_eq_getElem?_getD, List.getElem?_append_left (by rw [List.length_map]; omega)]
theorem zm_ext {N E : List ZNode} (hg : ZGood N) (hg2 : ZGood (N ++ E)) : ∀ r, r ≤ 1 + N.length → ∀ s, zm (N ++ E) r s = zm N r s := by
  intro r
  induction r using Nat.strongRecOn with
  | ind r ih =>
    intro hr s
    match r, ih, hr with
    | 0, _, _ => rw [zm_zero, zm_zero]
    | 1, _, _ => rw [zm_one, zm_one]
    | i + 2, ih, hr =>
      have h : i < N.length := by omega
      have h2 : i < (N ++ E).length := by rw [List.length_append]; omega
      have e : (N ++ E)[i] = N[i] := List.getElem_append_left h
      rw [zm_node hg h, zm_node hg2 h2, e, ih N[i].hi (by have := (hg.hi i h).1; omega) (by have := (hg.hi i h).1; omega), ih N[i].lo (by have := (hg.lo i h).1; omega) (by have := (hg.lo i h).1; omega)]
/-- One more node. -/
theorem ZGood.add {N : List ZNode} (hg : ZGood N) (n : ZNode) (hv : n.v < 24) (hlo : n.lo ≤ 1 + N.length ∧ n.v < zev N n.lo) (hhi : n.hi ≤ 1 + N.length ∧ n.hi ≠ 0 ∧ n.v < zev N n.hi) (hn : n ∉ N) : ZGood (N ++ [n]) := by
  have el : (N ++ [n]).length = N.length + 1 := by simp
  have at0 : ∀ i (h : i < N.length), (N ++ [n])[i]'(by omega) = N[i] := fun i h => List.getElem_append_left h
  have at1 : ∀ (h : N.length < (N ++ [n]).length), (N ++ [n])[N.length]'h = n := fun h => by simp
  refine ⟨fun i h => ?_, fun i h => ?_, fun i h => ?_, fun i j hi hj e => ?_⟩
  · by_cases h1 : i < N.length
    · rw [at0 i h1]; exact hg.ev i h1
    · have h2 : i = N.length := by omega
      subst h2
      rw [at1]; exact hv
  · by_cases h1 : i < N.length
    · rw [at0 i h1, zev_ext [n] (by have := (hg.lo i h1).1; omega)]; exact hg.lo i h1
    · have h2 : i = N.length := by omega
      subst h2
      rw [at1, zev_ext [n] hlo.1]; exact hlo
  · by_cases h1 : i < N.length
    · rw [at0 i h1, zev_ext [n] (by have := (hg.hi i h1).1; omega)]; exact hg.hi i h1
    · have h2 : i = N.length := by omega
      subst h2
      rw [at1, zev_ext [n] hhi.1]; exact hhi
  · by_cases h1 : i < N.length
    · by_cases h2 : j < N.length
      · rw [at0 i h1, at0 j h2] at e; exact hg.one i j h1 h2 e
      · have h3 : j = N.length := by omega
        subst h3
        rw [at0 i h1, at1] at e
        exact absurd (e ▸ List.getElem_mem h1) hn
    · have h3 : i = N.length := by omega
      subst h3
      by_cases h2 : j < N.length
      · rw [at0 j h2, at1] at e
        exact absurd (e ▸ List.getElem_mem h2) hn
      · omega
/-- The place of a node, or the end. -/
def zput (N : List ZNode) (n : ZNode) : List ZNode × Nat := if n.hi = 0 then (N, n.lo) else if n ∈ N then (N, 2 + N.idxOf n) else (N ++ [n], 2 + N.length)
/-- What Make does. -/
structure ZPut (N : List ZNode) (v : Nat) (f : Nat → Bool) (N' : List ZNode) (r : Nat) : Prop where
  ext : ∃ E, N' = N ++ E
  good : ZGood N'
  ref : r ≤ 1 + N'.length
  ev : v ≤ zev N' r
  mem : ∀ s, zm N' r s = f s
theorem zput_ok {N : List ZNode} (hg : ZGood N) (n : ZNode) (hv : n.v < 24) (hlo : n.lo ≤ 1 + N.length ∧ n.v < zev N n.lo) (hhi : n.hi ≤ 1 + N.length ∧ (n.hi ≠ 0 → n.v < zev N n.hi)) :
    ZPut N n.v (fun s => if s.testBit n.v = true then zm N n.hi (s ^^^ 2 ^ n.v) else zm N n.lo s) (zput N n).1 (zput N n).2 := by
  unfold zput
  by_cases h0 : n.hi = 0
  · rw [if_pos h0]
    refine ⟨⟨[], by simp⟩, hg, hlo.1, Nat.le_of_lt hlo.2, fun s => ?_⟩
    show zm N n.lo s = if _ then _ else _
    by_cases hb : s.testBit n.v = true
    · rw [if_pos hb, h0, zm_zero]
      cases e : zm N n.lo s with
      | false => rfl
      | true => have := zm_low hg _ hlo.1 s e _ hb; omega
    · rw [if_neg hb]
  · rw [if_neg h0]
    by_cases hm : n ∈ N
    · rw [if_pos hm]
      have hi : N.idxOf n < N.length := List.idxOf_lt_length_iff.2 hm
      have e : N[N.idxOf n] = n := List.getElem_idxOf hi
      refine ⟨⟨[], by simp⟩, hg, by show 2 + N.idxOf n ≤ 1 + N.length; omega, ?_, fun s => ?_⟩
      · show n.v ≤ zev N (2 + N.idxOf n)
        rw [Nat.add_comm, zev_node hi, e]
        exact Nat.le_refl _
      · show zm N (2 + N.idxOf n) s = if _ then _ else _
        rw [Nat.add_comm, zm_node hg hi, e]
    · rw [if_neg hm]
      have hg2 := hg.add n hv hlo ⟨hhi.1, h0, hhi.2 h0⟩ hm
      have hl : N.length < (N ++ [n]).length := by simp
      have e : (N ++ [n])[N.length]'hl = n := by simp
      refine ⟨⟨[n], rfl⟩, hg2, by show 2 + N.length ≤ 1 + (N ++ [n]).length; simp; omega, ?_, fun s => ?_⟩
      · show n.v ≤ zev (N ++ [n]) (2 + N.length)
        rw [Nat.add_comm, zev_node hl, e]
        exact Nat.le_refl _
      · show zm (N ++ [n]) (2 + N.length) s = if _ then _ else _
        rw [Nat.add_comm, zm_node hg2 hl, e, zm_ext hg hg2 _ hhi.1, zm_ext hg hg2 _ hlo.1]
end Go.Proofs.Ytiplibgnfcdlkaa

/-
  Plain: the two halves of a family; one step of Union, Meet and Minus.
-/
namespace Go.Proofs.Ytiplibgnfcdlkaa

/-- Kids: the sets without an event, and those with it (without it). -/
def zkids (N : List ZNode) (r v : Nat) : Nat × Nat := if zev N r = v then ((N.map ZNode.lo).getD (r - 2) 0, (N.map ZNode.hi).getD (r - 2) 0) else (r, 0)
structure ZKids (N : List ZNode) (r v : Nat) (k : Nat × Nat) : Prop where
  lo : k.1 ≤ 1 + N.length ∧ v < zev N k.1
  hi : k.2 ≤ 1 + N.length ∧ v < zev N k.2
  mem : ∀ s, zm N r s = if s.testBit v = true then zm N k.2 (s ^^^ 2 ^ v) else zm N k.1 s
theorem zev_zero (N : List ZNode) : zev N 0 = 24 := rfl
theorem zev_big {N : List ZNode} {r : Nat} (hr : 1 + N.length < r) : zev N r = 24 := by
  unfold zev
  rw [if_neg (by omega), List.getD_eq_getElem?_getD, List.getElem?_eq_none (by rw [List.length_map]; omega)]
  rfl
theorem zkids_ok {N : List ZNode} (hg : ZGood N) {r v : Nat} (hr : r ≤ 1 + N.length) (hv : v < 24) (hle : v ≤ zev N r) : ZKids N r v (zkids N r v) := by
  unfold zkids
  by_cases h : zev N r = v
  · rw [if_pos h]
    have h2 : ¬ r < 2 := fun h2 => by unfold zev at h; rw [if_pos h2] at h; omega
    obtain ⟨i, rfl⟩ : ∃ i, r = i + 2 := ⟨r - 2, by omega⟩
    have hi : i < N.length := by omega
    rw [zev_node hi] at h
    have e1 : (N.map ZNode.lo).getD (i + 2 - 2) 0 = N[i].lo := by rw [show i + 2 - 2 = i by omega, List.getD_eq_getElem?_getD, List.getElem?_map, List.getElem?_eq_getElem hi]; rfl
    have e2 : (N.map ZNode.hi).getD (i + 2 - 2) 0 = N[i].hi := by rw [show i + 2 - 2 = i by omega, List.getD_eq_getElem?_getD, List.getElem?_map, List.getElem?_eq_getElem hi]; rfl
    rw [e1, e2]
    have hlo := hg.lo i hi
    have hhi := hg.hi i hi
    refine ⟨⟨by show N[i].lo ≤ _; omega, by show v < zev N N[i].lo; omega⟩, ⟨by show N[i].hi ≤ _; omega, by show v < zev N N[i].hi; omega⟩, fun s => ?_⟩
    rw [zm_node hg hi, h]
  · rw [if_neg h]
    refine ⟨⟨hr, by show v < zev N r; omega⟩, ⟨Nat.zero_le _, by show v < zev N 0; rw [zev_zero]; exact hv⟩, fun s => ?_⟩
    show zm N r s = if _ then zm N 0 _ else zm N r s
    by_cases hb : s.testBit v = true
    · rw [if_pos hb, zm_zero]
      cases e : zm N r s with
      | false => rfl
      | true => have := zm_low hg r hr s e _ hb; omega
    · rw [if_neg hb]
/-- One step of an operation that is made set by set. -/
theorem zbin_step (op : Bool → Bool → Bool) {N N1 N2 : List ZNode} {a b v r0 r1 : Nat} (hg : ZGood N) (ha : a ≤ 1 + N.length) (hb : b ≤ 1 + N.length) (hv : v < 24) (hav : v ≤ zev N a) (hbv : v ≤ zev N b)
    (h1 : ZPut N (v + 1) (fun s => op (zm N (zkids N a v).1 s) (zm N (zkids N b v).1 s)) N1 r0)
    (h2 : ZPut N1 (v + 1) (fun s => op (zm N1 (zkids N a v).2 s) (zm N1 (zkids N b v).2 s)) N2 r1) :
    ZPut N v (fun s => op (zm N a s) (zm N b s)) (zput N2 ⟨v, r0, r1⟩).1 (zput N2 ⟨v, r0, r1⟩).2 := by
  have ka := zkids_ok hg ha hv hav
  have kb := zkids_ok hg hb hv hbv
  obtain ⟨E1, e1⟩ := h1.ext
  obtain ⟨E2, e2⟩ := h2.ext
  have g1 := h1.good
  have g2 := h2.good
  have l1 : N1.length ≤ N2.length := by rw [e2, List.length_append]; omega
  have x0 : zev N2 r0 = zev N1 r0 := by rw [e2]; exact zev_ext E2 h1.ref
  have hp := zput_ok g2 ⟨v, r0, r1⟩ hv ⟨by show r0 ≤ _; have := h1.ref; omega, by show v < zev N2 r0; rw [x0]; have := h1.ev; omega⟩ ⟨h2.ref, fun _ => by show v < zev N2 r1; have := h2.ev; omega⟩
  have c1 : ∀ r, r ≤ 1 + N.length → ∀ s, zm N1 r s = zm N r s := fun r hr s => by
    subst e1
    exact zm_ext hg g1 r hr s
  have c2 : ∀ r, r ≤ 1 + N1.length → ∀ s, zm N2 r s = zm N1 r s := fun r hr s => by
    subst e2
    exact zm_ext g1 g2 r hr s
  obtain ⟨E3, e3⟩ := hp.ext
  refine ⟨⟨E1 ++ E2 ++ E3, by rw [e3, e2, e1]; simp⟩, hp.good, hp.ref, hp.ev, fun s => ?_⟩
  rw [hp.mem]
  show (if s.testBit v = true then zm N2 r1 (s ^^^ 2 ^ v) else zm N2 r0 s) = op (zm N a s) (zm N b s)
  rw [ka.mem s, kb.mem s]
  by_cases hb : s.testBit v = true
  · rw [if_pos hb, if_pos hb, if_pos hb, h2.mem, c1 _ ka.hi.1, c1 _ kb.hi.1]
  · rw [if_neg hb, if_neg hb, if_neg hb, c2 _ h1.ref, h1.mem]
end Go.Proofs.Ytiplibgnfcdlkaa

/-
  Plain: one step of Join, of Without, of Minimal.
-/
namespace Go.Proofs.Ytiplibgnfcdlkaa

/-- All unions. -/
noncomputable def zjoin (F G : Nat → Bool) (s : Nat) : Bool := @decide (∃ t u, F t = true ∧ G u = true ∧ t ||| u = s) (Classical.propDecidable _)
theorem zjoin_iff {F G : Nat → Bool} {s : Nat} : zjoin F G s = true ↔ ∃ t u, F t = true ∧ G u = true ∧ t ||| u = s := by
  exact @decide_eq_true_iff _ (Classical.propDecidable _)
/-- A set is in another one. -/
def zsub (u t : Nat) : Prop := ∀ j, u.testBit j = true → t.testBit j = true
/-- The sets of F of which no set of G is a subset. -/
noncomputable def zwithout (F G : Nat → Bool) (s : Nat) : Bool := @decide (F s = true ∧ ∀ u, G u = true → ¬ zsub u s) (Classical.propDecidable _)
theorem zwithout_iff {F G : Nat → Bool} {s : Nat} : zwithout F G s = true ↔ F s = true ∧ ∀ u, G u = true → ¬ zsub u s := by
  exact @decide_eq_true_iff _ (Classical.propDecidable _)
/-- A family by its halves at an event. -/
structure ZHalf (v : Nat) (F F0 F1 : Nat → Bool) : Prop where
  mem : ∀ s, F s = if s.testBit v = true then F1 (s ^^^ 2 ^ v) else F0 s
  off0 : ∀ s, s.testBit v = true → F0 s = false
  off1 : ∀ s, s.testBit v = true → F1 s = false
theorem ZKids.half {N : List ZNode} (hg : ZGood N) {r v : Nat} {k : Nat × Nat} (h : ZKids N r v k) : ZHalf v (zm N r) (zm N k.1) (zm N k.2) :=
  ⟨h.mem, fun s hs => by
    cases e : zm N k.1 s with
    | false => rfl
    | true => have := zm_low hg _ h.lo.1 s e _ hs; have := h.lo.2; omega, fun s hs => by
    cases e : zm N k.2 s with
    | false => rfl
    | true => have := zm_low hg _ h.hi.1 s e _ hs; have := h.hi.2; omega⟩
theorem flip_off {s v : Nat} (h : s.testBit v = true) : (s ^^^ 2 ^ v).testBit v = false := by rw [xor_bit, if_pos rfl, h]; rfl
theorem flip_on {s v : Nat} (h : s.testBit v = false) : (s ^^^ 2 ^ v).testBit v = true := by rw [xor_bit, if_pos rfl, h]; rfl
theorem flip_flip (s v : Nat) : (s ^^^ 2 ^ v) ^^^ 2 ^ v = s := by rw [Nat.xor_assoc, Nat.xor_self, Nat.xor_zero]
theorem off_of {v : Nat} {F : Nat → Bool} (h : ∀ s, s.testBit v = true → F s = false) {s : Nat} (hs : F s = true) : s.testBit v = false := by
  cases e : s.testBit v with
  | false => rfl
  | true => rw [h s e] at hs; cases hs
theorem or_flip {t u v : Nat} : ∀ {a b : Nat}, (∀ j, j ≠ v → a.testBit j = t.testBit j) → (∀ j, j ≠ v → b.testBit j = u.testBit j) → ∀ j, j ≠ v → (a ||| b).testBit j = (t ||| u).testBit j := by
  intro a b ha hb j hj
  rw [Nat.testBit_or, Nat.testBit_or, ha j hj, hb j hj]
theorem flip_same (s v : Nat) : ∀ j, j ≠ v → (s ^^^ 2 ^ v).testBit j = s.testBit j := fun j hj => by rw [xor_bit, if_neg (fun h => hj h.symm)]
theorem eq_bits {a b v : Nat} (h1 : ∀ j, j ≠ v → a.testBit j = b.testBit j) (h2 : a.testBit v = b.testBit v) : a = b := Nat.eq_of_testBit_eq fun j => by
  by_cases h : j = v
  · rw [h]; exact h2
  · exact h1 j h
theorem zjoin_half {v : Nat} {F F0 F1 G G0 G1 : Nat → Bool} (hF : ZHalf v F F0 F1) (hG : ZHalf v G G0 G1) :
    ZHalf v (zjoin F G) (zjoin F0 G0) (fun s => zjoin F1 G1 s || (zjoin F1 G0 s || zjoin F0 G1 s)) := by
  have offj : ∀ {A B : Nat → Bool}, (∀ s, s.testBit v = true → A s = false) → (∀ s, s.testBit v = true → B s = false) → ∀ s, s.testBit v = true → zjoin A B s = false := fun hA hB s hs => by
    cases e : zjoin _ _ s with
    | false => rfl
    | true =>
      obtain ⟨t, u, h1, h2, rfl⟩ := zjoin_iff.1 e
      rw [Nat.testBit_or, off_of hA h1, off_of hB h2] at hs
      cases hs
  refine ⟨fun s => ?_, offj hF.off0 hG.off0, fun s hs => ?_⟩
  · rw [Bool.eq_iff_iff]
    by_cases hb : s.testBit v = true
    · rw [if_pos hb]
      simp only [Bool.or_eq_true, zjoin_iff]
      constructor
      · rintro ⟨t, u, h1, h2, rfl⟩
        rw [hF.mem] at h1
        rw [hG.mem] at h2
        have hoff := flip_off hb
        by_cases ht : t.testBit v = true
        · rw [if_pos ht] at h1
          by_cases hu : u.testBit v = true
          · rw [if_pos hu] at h2
            exact .inl ⟨_, _, h1, h2, eq_bits (fun j hj => by rw [or_flip (flip_same t v) (flip_same u v) j hj, flip_same _ v j hj]) (by rw [hoff, Nat.testBit_or, flip_off ht, flip_off hu]; rfl)⟩
          · rw [if_neg hu] at h2
            exact .inr (.inl ⟨_, _, h1, h2, eq_bits (fun j hj => by rw [or_flip (u := u) (flip_same t v) (fun _ _ => rfl) j hj, flip_same _ v j hj]) (by rw [hoff, Nat.testBit_or, flip_off ht, Bool.eq_false_iff.2 hu]; rfl)⟩)
        · rw [if_neg ht] at h1
          by_cases hu : u.testBit v = true
          · rw [if_pos hu] at h2
            exact .inr (.inr ⟨_, _, h1, h2, eq_bits (fun j hj => by rw [or_flip (t := t) (fun _ _ => rfl) (flip_same u v) j hj, flip_same _ v j hj]) (by rw [hoff, Nat.testBit_or, Bool.eq_false_iff.2 ht, flip_off hu]; rfl)⟩)
          · rw [Nat.testBit_or, Bool.eq_false_iff.2 ht, Bool.eq_false_iff.2 hu] at hb
            cases hb
      · rintro (⟨t, u, h1, h2, e⟩ | ⟨t, u, h1, h2, e⟩ | ⟨t, u, h1, h2, e⟩)
        · have ht := off_of hF.off1 h1
          have hu := off_of hG.off1 h2
          refine ⟨t ^^^ 2 ^ v, u ^^^ 2 ^ v, by rw [hF.mem, if_pos (flip_on ht), flip_flip]; exact h1, by rw [hG.mem, if_pos (flip_on hu), flip_flip]; exact h2, ?_⟩
          rw [← flip_flip s v, ← e]
          exact eq_bits (fun j hj => by rw [Nat.testBit_or, flip_same t v j hj, flip_same u v j hj, flip_same _ v j hj, Nat.testBit_or]) (by rw [Nat.testBit_or, flip_on ht, flip_on (s := t ||| u) (by rw [Nat.testBit_or, ht, hu]; rfl)]; rfl)
        · have ht := off_of hF.off1 h1
          have hu := off_of hG.off0 h2
          refine ⟨t ^^^ 2 ^ v, u, by rw [hF.mem, if_pos (flip_on ht), flip_flip]; exact h1, by rw [hG.mem, if_neg (by rw [hu]; simp)]; exact h2, ?_⟩
          rw [← flip_flip s v, ← e]
          exact eq_bits (fun j hj => by rw [Nat.testBit_or, flip_same t v j hj, flip_same _ v j hj, Nat.testBit_or]) (by rw [Nat.testBit_or, flip_on ht, flip_on (s := t ||| u) (by rw [Nat.testBit_or, ht, hu]; rfl)]; rfl)
        · have ht := off_of hF.off0 h1
          have hu := off_of hG.off1 h2
          refine ⟨t, u ^^^ 2 ^ v, by rw [hF.mem, if_neg (by rw [ht]; simp)]; exact h1, by rw [hG.mem, if_pos (flip_on hu), flip_flip]; exact h2, ?_⟩
          rw [← flip_flip s v, ← e]
          exact eq_bits (fun j hj => by rw [Nat.testBit_or, flip_same u v j hj, flip_same _ v j hj, Nat.testBit_or]) (by rw [Nat.testBit_or, ht, flip_on hu, flip_on (s := t ||| u) (by rw [Nat.testBit_or, ht, hu]; rfl)]; rfl)
    · rw [if_neg hb, zjoin_iff, zjoin_iff]
      constructor
      · rintro ⟨t, u, h1, h2, rfl⟩
        have hb := Bool.eq_false_iff.2 hb
        rw [Nat.testBit_or, Bool.or_eq_false_iff] at hb
        rw [hF.mem, if_neg (by rw [hb.1]; simp)] at h1
        rw [hG.mem, if_neg (by rw [hb.2]; simp)] at h2
        exact ⟨t, u, h1, h2, rfl⟩
      · rintro ⟨t, u, h1, h2, rfl⟩
        exact ⟨t, u, by rw [hF.mem, if_neg (by rw [off_of hF.off0 h1]; simp)]; exact h1, by rw [hG.mem, if_neg (by rw [off_of hG.off0 h2]; simp)]; exact h2, rfl⟩
  · rw [offj hF.off1 hG.off1 s hs, offj hF.off1 hG.off0 s hs, offj hF.off0 hG.off1 s hs]
    rfl
theorem zwithout_half {v : Nat} {F F0 F1 G G0 G1 : Nat → Bool} (hF : ZHalf v F F0 F1) (hG : ZHalf v G G0 G1) :
    ZHalf v (zwithout F G) (zwithout F0 G0) (zwithout (zwithout F1 G0) G1) := by
  refine ⟨fun s => ?_, fun s hs => ?_, fun s hs => ?_⟩
  · rw [Bool.eq_iff_iff]
    by_cases hb : s.testBit v = true
    · rw [if_pos hb]
      simp only [zwithout_iff]
      rw [hF.mem s, if_pos hb]
      constructor
      · rintro ⟨h1, h2⟩
        refine ⟨⟨h1, fun u hu hsub => ?_⟩, fun u hu hsub => ?_⟩
        · refine h2 u (by rw [hG.mem, if_neg (by rw [off_of hG.off0 hu]; simp)]; exact hu) fun j hj => ?_
          have h3 := hsub j hj
          by_cases e : j = v
          · rw [e]; exact hb
          · rw [flip_same s v j e] at h3; exact h3
        · have h4 := off_of hG.off1 hu
          refine h2 (u ^^^ 2 ^ v) (by rw [hG.mem, if_pos (flip_on h4), flip_flip]; exact hu) fun j hj => ?_
          by_cases e : j = v
          · rw [e]; exact hb
          · rw [flip_same u v j e] at hj
            have h3 := hsub j hj
            rw [flip_same s v j e] at h3
            exact h3
      · rintro ⟨⟨h1, h2⟩, h3⟩
        refine ⟨h1, fun u hu hsub => ?_⟩
        rw [hG.mem] at hu
        by_cases e : u.testBit v = true
        · rw [if_pos e] at hu
          refine h3 _ hu fun j hj => ?_
          by_cases ev : j = v
          · rw [ev, flip_off e] at hj; cases hj
          · rw [flip_same u v j ev] at hj
            rw [flip_same s v j ev]
            exact hsub j hj
        · rw [if_neg e] at hu
          refine h2 _ hu fun j hj => ?_
          by_cases ev : j = v
          · rw [ev] at hj; exact absurd hj e
          · rw [flip_same s v j ev]
            exact hsub j hj
    · rw [if_neg hb, zwithout_iff, zwithout_iff, hF.mem s, if_neg hb]
      constructor
      · rintro ⟨h1, h2⟩
        exact ⟨h1, fun u hu => h2 u (by rw [hG.mem, if_neg (by rw [off_of hG.off0 hu]; simp)]; exact hu)⟩
      · rintro ⟨h1, h2⟩
        refine ⟨h1, fun u hu hsub => ?_⟩
        rw [hG.mem] at hu
        by_cases e : u.testBit v = true
        · exact hb (hsub v e)
        · rw [if_neg e] at hu
          exact h2 u hu hsub
  · cases e : zwithout F0 G0 s with
    | false => rfl
    | true => have h := (zwithout_iff.1 e).1; rw [hF.off0 s hs] at h; cases h
  · cases e : zwithout (zwithout F1 G0) G1 s with
    | false => rfl
    | true =>
      have h := (zwithout_iff.1 (zwithout_iff.1 e).1).1
      rw [hF.off1 s hs] at h
      cases h
end Go.Proofs.Ytiplibgnfcdlkaa

/-
  Plain: one step of Minimal, UpTo, With.
-/
namespace Go.Proofs.Ytiplibgnfcdlkaa

/-- The sets of which no other one is a subset. -/
noncomputable def zmin (F : Nat → Bool) (s : Nat) : Bool := @decide (F s = true ∧ ∀ u, F u = true → zsub u s → u = s) (Classical.propDecidable _)
theorem zmin_iff {F : Nat → Bool} {s : Nat} : zmin F s = true ↔ F s = true ∧ ∀ u, F u = true → zsub u s → u = s := by
  exact @decide_eq_true_iff _ (Classical.propDecidable _)
theorem zsub_refl (s : Nat) : zsub s s := fun _ h => h
theorem zsub_trans {a b c : Nat} (h1 : zsub a b) (h2 : zsub b c) : zsub a c := fun j h => h2 j (h1 j h)
theorem zsub_le {a b : Nat} (h : zsub a b) : a ≤ b := Nat.le_of_testBit fun j hj => h j hj
/-- Each set has a minimal one below it. -/
theorem zmin_below {F : Nat → Bool} : ∀ u, F u = true → ∃ m, zmin F m = true ∧ zsub m u := by
  intro u
  induction u using Nat.strongRecOn with
  | ind u ih =>
    intro hu
    by_cases h : ∀ x, F x = true → zsub x u → x = u
    · exact ⟨u, zmin_iff.2 ⟨hu, h⟩, zsub_refl u⟩
    · obtain ⟨x, hx⟩ := Classical.not_forall.1 h
      have h1 : F x = true := Classical.byContradiction fun h1 => hx fun h2 => absurd h2 h1
      have h2 : zsub x u := Classical.byContradiction fun h2 => hx fun _ h3 => absurd h3 h2
      have h3 : x ≠ u := fun h3 => hx fun _ _ => h3
      obtain ⟨m, h4, h5⟩ := ih x (by have := zsub_le h2; omega) h1
      exact ⟨m, h4, zsub_trans h5 h2⟩
theorem zmin_half {v : Nat} {F F0 F1 : Nat → Bool} (hF : ZHalf v F F0 F1) : ZHalf v (zmin F) (zmin F0) (zwithout (zmin F1) (zmin F0)) := by
  refine ⟨fun s => ?_, fun s hs => ?_, fun s hs => ?_⟩
  · rw [Bool.eq_iff_iff]
    by_cases hb : s.testBit v = true
    · rw [if_pos hb, zmin_iff, zwithout_iff, zmin_iff, hF.mem s, if_pos hb]
      constructor
      · rintro ⟨h1, h2⟩
        refine ⟨⟨h1, fun u hu hsub => ?_⟩, fun u hu hsub => ?_⟩
        · have h4 := off_of hF.off1 hu
          have h5 := h2 (u ^^^ 2 ^ v) (by rw [hF.mem, if_pos (flip_on h4), flip_flip]; exact hu) fun j hj => by
            by_cases e : j = v
            · rw [e]; exact hb
            · rw [flip_same u v j e] at hj
              have h3 := hsub j hj
              rw [flip_same s v j e] at h3
              exact h3
          rw [← h5, flip_flip]
        · have hu0 := (zmin_iff.1 hu).1
          have h4 := off_of hF.off0 hu0
          have h5 := h2 u (by rw [hF.mem, if_neg (by rw [h4]; simp)]; exact hu0) fun j hj => by
            by_cases e : j = v
            · rw [e]; exact hb
            · have h3 := hsub j hj
              rw [flip_same s v j e] at h3
              exact h3
          rw [h5] at h4
          rw [h4] at hb
          cases hb
      · rintro ⟨⟨h1, h2⟩, h3⟩
        refine ⟨h1, fun u hu hsub => ?_⟩
        rw [hF.mem] at hu
        by_cases e : u.testBit v = true
        · rw [if_pos e] at hu
          have h5 := h2 _ hu fun j hj => by
            by_cases ev : j = v
            · rw [ev, flip_off e] at hj; cases hj
            · rw [flip_same u v j ev] at hj
              rw [flip_same s v j ev]
              exact hsub j hj
          rw [← flip_flip u v, h5, flip_flip]
        · rw [if_neg e] at hu
          obtain ⟨m, hm, hmu⟩ := zmin_below u hu
          exact absurd (fun j hj => by
            have h6 := hmu j hj
            by_cases ev : j = v
            · rw [ev] at h6; exact absurd h6 e
            · rw [flip_same s v j ev]; exact hsub j h6) (h3 m hm)
    · rw [if_neg hb, zmin_iff, zmin_iff, hF.mem s, if_neg hb]
      constructor
      · rintro ⟨h1, h2⟩
        exact ⟨h1, fun u hu hsub => h2 u (by rw [hF.mem, if_neg (by rw [off_of hF.off0 hu]; simp)]; exact hu) hsub⟩
      · rintro ⟨h1, h2⟩
        refine ⟨h1, fun u hu hsub => ?_⟩
        rw [hF.mem] at hu
        by_cases e : u.testBit v = true
        · exact absurd (hsub v e) hb
        · rw [if_neg e] at hu
          exact h2 u hu hsub
  · cases e : zmin F0 s with
    | false => rfl
    | true => have h := (zmin_iff.1 e).1; rw [hF.off0 s hs] at h; cases h
  · cases e : zwithout (zmin F1) (zmin F0) s with
    | false => rfl
    | true =>
      have h := (zmin_iff.1 (zwithout_iff.1 e).1).1
      rw [hF.off1 s hs] at h
      cases h
/-- The sets that have an event that is not the first one. -/
theorem zwith_half {v i : Nat} {F F0 F1 : Nat → Bool} (hF : ZHalf v F F0 F1) (hi : v ≠ i) :
    ZHalf v (fun s => F s && s.testBit i) (fun s => F0 s && s.testBit i) (fun s => F1 s && s.testBit i) := by
  refine ⟨fun s => ?_, fun s hs => by rw [hF.off0 s hs]; rfl, fun s hs => by rw [hF.off1 s hs]; rfl⟩
  show (F s && s.testBit i) = if _ then _ else _
  rw [hF.mem s]
  by_cases hb : s.testBit v = true
  · rw [if_pos hb, if_pos hb, flip_same s v i (fun h => hi h.symm)]
  · rw [if_neg hb, if_neg hb]
/-- The sets that have the first event. -/
theorem zwith_first {v : Nat} {F F0 F1 : Nat → Bool} (hF : ZHalf v F F0 F1) : ZHalf v (fun s => F s && s.testBit v) (fun _ => false) F1 := by
  refine ⟨fun s => ?_, fun _ _ => rfl, hF.off1⟩
  show (F s && s.testBit v) = if _ then _ else _
  rw [hF.mem s]
  by_cases hb : s.testBit v = true
  · rw [if_pos hb, if_pos hb, hb, Bool.and_true]
  · rw [if_neg hb, if_neg hb, Bool.eq_false_iff.2 hb, Bool.and_false]
end Go.Proofs.Ytiplibgnfcdlkaa

/-
  Plain: a family is made from its halves, whatever the operation.
-/
namespace Go.Proofs.Ytiplibgnfcdlkaa

theorem zhalf_step {N N1 N2 : List ZNode} {v r0 r1 : Nat} {F F0 F1 : Nat → Bool} (hv : v < 24) (hF : ZHalf v F F0 F1) (h1 : ZPut N (v + 1) F0 N1 r0) (h2 : ZPut N1 (v + 1) F1 N2 r1) :
    ZPut N v F (zput N2 ⟨v, r0, r1⟩).1 (zput N2 ⟨v, r0, r1⟩).2 := by
  obtain ⟨E1, e1⟩ := h1.ext
  obtain ⟨E2, e2⟩ := h2.ext
  have g1 := h1.good
  have g2 := h2.good
  have l1 : N1.length ≤ N2.length := by rw [e2, List.length_append]; omega
  have x0 : zev N2 r0 = zev N1 r0 := by rw [e2]; exact zev_ext E2 h1.ref
  have hp := zput_ok g2 ⟨v, r0, r1⟩ hv ⟨by show r0 ≤ _; have := h1.ref; omega, by show v < zev N2 r0; rw [x0]; have := h1.ev; omega⟩ ⟨h2.ref, fun _ => by show v < zev N2 r1; have := h2.ev; omega⟩
  have c2 : ∀ r, r ≤ 1 + N1.length → ∀ s, zm N2 r s = zm N1 r s := fun r hr s => by
    subst e2
    exact zm_ext g1 g2 r hr s
  obtain ⟨E3, e3⟩ := hp.ext
  refine ⟨⟨E1 ++ E2 ++ E3, by rw [e3, e2, e1]; simp⟩, hp.good, hp.ref, hp.ev, fun s => ?_⟩
  rw [hp.mem, hF.mem s]
  show (if s.testBit v = true then zm N2 r1 (s ^^^ 2 ^ v) else zm N2 r0 s) = _
  rw [h2.mem, c2 _ h1.ref, h1.mem]
/-- What lies between may make nodes too. -/
theorem ZPut.keep {N N1 N2 : List ZNode} {v r : Nat} {F : Nat → Bool} (h : ZPut N v F N1 r) (he : ∃ E, N2 = N1 ++ E) (hg : ZGood N2) : ZPut N v F N2 r := by
  obtain ⟨E, rfl⟩ := he
  obtain ⟨E1, e1⟩ := h.ext
  refine ⟨⟨E1 ++ E, by rw [e1]; simp⟩, hg, by have := h.ref; rw [List.length_append]; omega, by rw [zev_ext E h.ref]; exact h.ev, fun s => ?_⟩
  rw [zm_ext h.good hg _ h.ref]
  exact h.mem s
/-- Two tables with one family: one reference. -/
theorem ZPut.same {N N' : List ZNode} {v w r r' : Nat} {F G : Nat → Bool} (h : ZPut N v F N' r) (h' : ZPut N w G N' r') (e : ∀ s, F s = G s) : r = r' :=
  zm_inj h.good r h.ref r' h'.ref fun s => by rw [h.mem, h'.mem, e]
end Go.Proofs.Ytiplibgnfcdlkaa

/-
  Plain: how many sets a reference has; what is remembered of operations.
-/
namespace Go.Proofs.Ytiplibgnfcdlkaa

/-- How many sets a reference has (so many steps at most). -/
def zcn (N : List ZNode) : Nat → Nat → Nat
  | _, 0 => 0
  | _, 1 => 1
  | 0, _ + 2 => 0
  | k + 1, r + 2 => match N[r]? with
    | none => 0
    | some n => zcn N k n.lo + zcn N k n.hi
def zct (N : List ZNode) (r : Nat) : Nat := zcn N r r
theorem zcn_zero (N : List ZNode) (k : Nat) : zcn N k 0 = 0 := by unfold zcn; rfl
theorem zcn_one (N : List ZNode) (k : Nat) : zcn N k 1 = 1 := by unfold zcn; rfl
theorem zcn_step {N : List ZNode} {k r : Nat} (h : r < N.length) : zcn N (k + 1) (r + 2) = zcn N k N[r].lo + zcn N k N[r].hi := by
  rw [zcn, List.getElem?_eq_getElem h]
theorem zcn_out {N : List ZNode} {k r : Nat} (h : N.length ≤ r) : zcn N k (r + 2) = 0 := by
  cases k with
  | zero => rw [zcn]
  | succ k => rw [zcn, List.getElem?_eq_none h]
theorem zcn_fuel {N : List ZNode} (hg : ZGood N) : ∀ r k k', r ≤ k → r ≤ k' → zcn N k r = zcn N k' r := by
  intro r
  induction r using Nat.strongRecOn with
  | ind r ih =>
    intro k k' hk hk'
    match r, ih, hk, hk' with
    | 0, _, _, _ => rw [zcn_zero, zcn_zero]
    | 1, _, _, _ => rw [zcn_one, zcn_one]
    | r + 2, ih, hk, hk' =>
      by_cases h : r < N.length
      · obtain ⟨k, rfl⟩ : ∃ x, k = x + 1 := ⟨k - 1, by omega⟩
        obtain ⟨k', rfl⟩ : ∃ x, k' = x + 1 := ⟨k' - 1, by omega⟩
        have h1 := (hg.lo r h).1
        have h2 := (hg.hi r h).1
        rw [zcn_step h, zcn_step h, ih N[r].hi (by omega) k k' (by omega) (by omega), ih N[r].lo (by omega) k k' (by omega) (by omega)]
      · rw [zcn_out (by omega), zcn_out (by omega)]
theorem zct_zero (N : List ZNode) : zct N 0 = 0 := zcn_zero N 0
theorem zct_one (N : List ZNode) : zct N 1 = 1 := zcn_one N 1
theorem zct_node {N : List ZNode} (hg : ZGood N) {i : Nat} (h : i < N.length) : zct N (i + 2) = zct N N[i].lo + zct N N[i].hi := by
  unfold zct
  rw [zcn_step h, zcn_fuel hg N[i].hi (i + 1) N[i].hi (by have := (hg.hi i h).1; omega) (Nat.le_refl _), zcn_fuel hg N[i].lo (i + 1) N[i].lo (by have := (hg.lo i h).1; omega) (Nat.le_refl _)]
theorem zct_ext {N E : List ZNode} (hg : ZGood N) (hg2 : ZGood (N ++ E)) : ∀ r, r ≤ 1 + N.length → zct (N ++ E) r = zct N r := by
  intro r
  induction r using Nat.strongRecOn with
  | ind r ih =>
    intro hr
    match r, ih, hr with
    | 0, _, _ => rw [zct_zero, zct_zero]
    | 1, _, _ => rw [zct_one, zct_one]
    | i + 2, ih, hr =>
      have h : i < N.length := by omega
      have h2 : i < (N ++ E).length := by rw [List.length_append]; omega
      have e : (N ++ E)[i] = N[i] := List.getElem_append_left h
      rw [zct_node hg h, zct_node hg2 h2, e, ih N[i].hi (by have := (hg.hi i h).1; omega) (by have := (hg.hi i h).1; omega), ih N[i].lo (by have := (hg.lo i h).1; omega) (by have := (hg.lo i h).1; omega)]
theorem zev_le {N : List ZNode} (hg : ZGood N) (r : Nat) : zev N r ≤ 24 := by
  by_cases h : r < 2
  · unfold zev; rw [if_pos h]; exact Nat.le_refl _
  · by_cases h2 : r - 2 < N.length
    · obtain ⟨i, rfl⟩ : ∃ i, r = i + 2 := ⟨r - 2, by omega⟩
      have h2 : i < N.length := by omega
      rw [zev_node h2]
      exact Nat.le_of_lt (hg.ev i h2)
    · rw [zev_big (by omega)]; exact Nat.le_refl _
theorem zct_le {N : List ZNode} (hg : ZGood N) : ∀ r, r ≤ 1 + N.length → zct N r ≤ 2 ^ (24 - zev N r) := by
  intro r
  induction r using Nat.strongRecOn with
  | ind r ih =>
    intro hr
    match r, ih, hr with
    | 0, _, _ => rw [zct_zero]; exact Nat.zero_le _
    | 1, _, _ => rw [zct_one]; exact Nat.one_le_two_pow
    | i + 2, ih, hr =>
      have h : i < N.length := by omega
      have h1 := hg.lo i h
      have h2 := hg.hi i h
      have h3 := hg.ev i h
      have i1 := ih N[i].lo (by omega) (by omega)
      have i2 := ih N[i].hi (by omega) (by omega)
      rw [zct_node hg h, zev_node h]
      have e1 : 2 ^ (24 - zev N N[i].lo) ≤ 2 ^ (23 - N[i].v) := Nat.pow_le_pow_right (by decide) (by omega)
      have e2 : 2 ^ (24 - zev N N[i].hi) ≤ 2 ^ (23 - N[i].v) := Nat.pow_le_pow_right (by decide) (by omega)
      have e3 : 2 ^ (24 - N[i].v) = 2 * 2 ^ (23 - N[i].v) := by rw [show 24 - N[i].v = (23 - N[i].v) + 1 by omega, Nat.pow_succ]; omega
      omega
theorem zct_max {N : List ZNode} (hg : ZGood N) {r : Nat} (hr : r ≤ 1 + N.length) : zct N r ≤ 16777216 :=
  Nat.le_trans (zct_le hg r hr) (show 2 ^ (24 - zev N r) ≤ 2 ^ 24 from Nat.pow_le_pow_right (by decide) (by omega))
/-- A reference is 0 or has a set. -/
theorem zct_pos {N : List ZNode} (hg : ZGood N) : ∀ r, r ≤ 1 + N.length → r ≠ 0 → 1 ≤ zct N r := by
  intro r
  induction r using Nat.strongRecOn with
  | ind r ih =>
    intro hr h0
    match r, ih, hr, h0 with
    | 0, _, _, h0 => exact absurd rfl h0
    | 1, _, _, _ => rw [zct_one]; exact Nat.le_refl _
    | i + 2, ih, hr, _ =>
      have h : i < N.length := by omega
      have h2 := hg.hi i h
      have := ih N[i].hi (by omega) (by omega) h2.2.1
      rw [zct_node hg h]
      omega
/-- The halves at an event have together as many. -/
theorem zct_kids {N : List ZNode} (hg : ZGood N) {r v : Nat} (hr : r ≤ 1 + N.length) (hv : v < 24) (hle : v ≤ zev N r) : zct N (zkids N r v).1 + zct N (zkids N r v).2 = zct N r := by
  unfold zkids
  by_cases h : zev N r = v
  · rw [if_pos h]
    have h2 : ¬ r < 2 := fun h2 => by unfold zev at h; rw [if_pos h2] at h; omega
    obtain ⟨i, rfl⟩ : ∃ i, r = i + 2 := ⟨r - 2, by omega⟩
    have hi : i < N.length := by omega
    have e1 : (N.map ZNode.lo).getD (i + 2 - 2) 0 = N[i].lo := by rw [show i + 2 - 2 = i by omega, List.getD_eq_getElem?_getD, List.getElem?_map, List.getElem?_eq_getElem hi]; rfl
    have e2 : (N.map ZNode.hi).getD (i + 2 - 2) 0 = N[i].hi := by rw [show i + 2 - 2 = i by omega, List.getD_eq_getElem?_getD, List.getElem?_map, List.getElem?_eq_getElem hi]; rfl
    rw [e1, e2, zct_node hg hi]
  · rw [if_neg h, zct_zero, Nat.add_zero]
/-- All sets begin at v or behind: so does the reference. -/
theorem zev_ge {N : List ZNode} (hg : ZGood N) {r v : Nat} (hr : r ≤ 1 + N.length) (hv : v ≤ 24) (h : ∀ s, zm N r s = true → ∀ j, s.testBit j = true → v ≤ j) : v ≤ zev N r := by
  by_cases h2 : r < 2
  · unfold zev; rw [if_pos h2]; exact hv
  · obtain ⟨i, rfl⟩ : ∃ i, r = i + 2 := ⟨r - 2, by omega⟩
    have hi : i < N.length := by omega
    obtain ⟨s, h3, h4⟩ := zm_top hg hi
    rw [zev_node hi]
    exact h s h3 _ h4
theorem pc_step (n : Nat) : pc n = n % 2 + pc (n / 2) := by
  by_cases h : n = 0
  · subst h; rw [show 0 / 2 = 0 from rfl, pc, if_pos rfl]
  · rw [pc, if_neg h]
theorem pc_flip : ∀ v s, s.testBit v = true → pc s = pc (s ^^^ 2 ^ v) + 1 := by
  intro v
  induction v with
  | zero =>
    intro s h
    rw [Nat.testBit_zero, decide_eq_true_iff] at h
    have e : (s ^^^ 2 ^ 0) / 2 = s / 2 := by
      apply Nat.eq_of_testBit_eq
      intro j
      rw [Nat.testBit_div_two, Nat.testBit_div_two, xor_bit, if_neg (by omega)]
    have e2 : (s ^^^ 2 ^ 0) % 2 = 0 := by
      have h2 : (s ^^^ 2 ^ 0).testBit 0 = false := by rw [xor_bit, if_pos rfl, Nat.testBit_zero, h]; rfl
      rw [Nat.testBit_zero, decide_eq_false_iff_not] at h2
      omega
    rw [pc_step s, pc_step (s ^^^ 2 ^ 0), e, e2]
    omega
  | succ v ih =>
    intro s h
    have e : (s ^^^ 2 ^ (v + 1)) / 2 = s / 2 ^^^ 2 ^ v := by
      apply Nat.eq_of_testBit_eq
      intro j
      rw [Nat.testBit_div_two, xor_bit, xor_bit, Nat.testBit_div_two]
      by_cases h1 : v = j
      · rw [if_pos h1, if_pos (by omega)]
      · rw [if_neg h1, if_neg (by omega)]
    have e2 : (s ^^^ 2 ^ (v + 1)) % 2 = s % 2 := by
      have h2 : (s ^^^ 2 ^ (v + 1)).testBit 0 = s.testBit 0 := by rw [xor_bit, if_neg (by omega)]
      rw [Nat.testBit_zero, Nat.testBit_zero, decide_eq_decide] at h2
      omega
    rw [pc_step s, pc_step (s ^^^ 2 ^ (v + 1)), e, e2, ih (s / 2) (by rw [Nat.testBit_div_two]; exact h)]
    omega
/-- What an operation computes: union, meet, minus, join, without, minimal, up to, with. -/
noncomputable def zsem (N : List ZNode) (op a b s : Nat) : Bool :=
  if op = 117 then zm N a s || zm N b s else if op = 109 then zm N a s && zm N b s else if op = 100 then zm N a s && !zm N b s
  else if op = 106 then zjoin (zm N a) (zm N b) s else if op = 119 then zwithout (zm N a) (zm N b) s else if op = 110 then zmin (zm N a) s
  else if op = 107 then zm N a s && decide (pc s ≤ b) else zm N a s && s.testBit b
/-- Its arguments are references, or a number where it takes one. -/
def ZArg (N : List ZNode) (op a b : Nat) : Prop := a ≤ 1 + N.length ∧ (op = 107 ∨ op = 101 ∨ b ≤ 1 + N.length)
theorem zsem_ext {N E : List ZNode} (hg : ZGood N) (hg2 : ZGood (N ++ E)) {op a b : Nat} (h : ZArg N op a b) (s : Nat) : zsem (N ++ E) op a b s = zsem N op a b s := by
  have ea : zm (N ++ E) a = zm N a := funext fun s => zm_ext hg hg2 a h.1 s
  unfold zsem
  rw [ea]
  rcases h.2 with rfl | rfl | h2
  · simp
  · simp
  · rw [show zm (N ++ E) b = zm N b from funext fun s => zm_ext hg hg2 b h2 s]
/-- What is remembered is true. -/
def ZMem (N : List ZNode) (k : Nat × Nat × Nat) (r : Nat) : Prop :=
  ZArg N k.1 k.2.1 k.2.2 ∧ if k.1 = 99 then r = zct N k.2.1 else r ≤ 1 + N.length ∧ ∀ s, zm N r s = zsem N k.1 k.2.1 k.2.2 s
theorem ZMem.ext {N E : List ZNode} {k : Nat × Nat × Nat} {r : Nat} (h : ZMem N k r) (hg : ZGood N) (hg2 : ZGood (N ++ E)) : ZMem (N ++ E) k r := by
  obtain ⟨h1, h2⟩ := h
  refine ⟨⟨by have := h1.1; rw [List.length_append]; omega, h1.2.imp id (Or.imp id fun h => by rw [List.length_append]; omega)⟩, ?_⟩
  by_cases hc : k.1 = 99
  · rw [if_pos hc] at h2 ⊢
    rw [h2, zct_ext hg hg2 _ h1.1]
  · rw [if_neg hc] at h2 ⊢
    exact ⟨by rw [List.length_append]; omega, fun s => by rw [zm_ext hg hg2 r h2.1, h2.2, zsem_ext hg hg2 h1]⟩
end Go.Proofs.Ytiplibgnfcdlkaa

/-
  Plain: the only diagram of a family; a walk from a reference makes it.
-/
namespace Go.Proofs.Ytiplibgnfcdlkaa

/-- The sets without an event, and those with it (without it). -/
def zlo (F : Nat → Bool) (v s : Nat) : Bool := F s && !s.testBit v
def zhi (F : Nat → Bool) (v s : Nat) : Bool := F (s ^^^ 2 ^ v) && !s.testBit v
theorem zhalf_lohi (F : Nat → Bool) (v : Nat) : ZHalf v F (zlo F v) (zhi F v) := by
  refine ⟨fun s => ?_, fun s hs => by unfold zlo; rw [hs]; simp, fun s hs => by unfold zhi; rw [hs]; simp⟩
  by_cases hb : s.testBit v = true
  · rw [if_pos hb]
    unfold zhi
    rw [flip_flip, flip_off hb]
    simp
  · rw [if_neg hb]
    unfold zlo
    rw [Bool.eq_false_iff.2 hb]
    simp
theorem zhalf_uniq {v : Nat} {F F0 F1 : Nat → Bool} (h : ZHalf v F F0 F1) : zlo F v = F0 ∧ zhi F v = F1 := by
  constructor
  · funext s
    unfold zlo
    rw [h.mem s]
    by_cases hb : s.testBit v = true
    · rw [hb, h.off0 s hb]; simp
    · rw [if_neg hb, Bool.eq_false_iff.2 hb]; simp
  · funext s
    unfold zhi
    by_cases hb : s.testBit v = true
    · rw [hb, h.off1 s hb]; simp
    · rw [h.mem (s ^^^ 2 ^ v), if_pos (flip_on (Bool.eq_false_iff.2 hb)), flip_flip, Bool.eq_false_iff.2 hb]; simp
/-- A table with the nodes of a family whose sets have events from 24 - k on, and the reference to it. -/
def zadd : Nat → List ZNode → (Nat → Bool) → List ZNode × Nat
  | 0, M, F => (M, if F 0 = true then 1 else 0)
  | k + 1, M, F =>
    let a := zadd k M (zlo F (23 - k))
    let b := zadd k a.1 (zhi F (23 - k))
    zput b.1 ⟨23 - k, a.2, b.2⟩
/-- The family's sets have events from v on. -/
def ZFrom (v : Nat) (F : Nat → Bool) : Prop := ∀ s, F s = true → ∀ j, s.testBit j = true → v ≤ j ∧ j < 24
theorem ZFrom.lo {k : Nat} {F : Nat → Bool} (h : ZFrom (23 - k) F) (_hk : k < 24) : ZFrom (24 - k) (zlo F (23 - k)) := fun s hs j hj => by
  unfold zlo at hs
  rw [Bool.and_eq_true, Bool.not_eq_true'] at hs
  have h1 := h s hs.1 j hj
  have h2 : j ≠ 23 - k := fun e => by rw [e] at hj; rw [hs.2] at hj; cases hj
  omega
theorem ZFrom.hi {k : Nat} {F : Nat → Bool} (h : ZFrom (23 - k) F) (_hk : k < 24) : ZFrom (24 - k) (zhi F (23 - k)) := fun s hs j hj => by
  unfold zhi at hs
  rw [Bool.and_eq_true, Bool.not_eq_true'] at hs
  have h2 : j ≠ 23 - k := fun e => by rw [e] at hj; rw [hs.2] at hj; cases hj
  have h1 := h _ hs.1 j (by rw [flip_same s _ j h2]; exact hj)
  omega
theorem zm_from {N : List ZNode} (hg : ZGood N) {r v : Nat} (hr : r ≤ 1 + N.length) (hv : v ≤ zev N r) : ZFrom v (zm N r) := fun s hs j hj => by
  have := zm_low hg r hr s hs j hj
  omega
theorem zadd_put : ∀ k, k ≤ 24 → ∀ (M : List ZNode) (F : Nat → Bool), ZGood M → ZFrom (24 - k) F → ZPut M (24 - k) F (zadd k M F).1 (zadd k M F).2 := by
  intro k
  induction k with
  | zero =>
    intro _ M F hg hF
    refine ⟨⟨[], by simp [zadd]⟩, hg, ?_, ?_, fun s => ?_⟩
    · show (if F 0 = true then 1 else 0) ≤ 1 + M.length
      split <;> omega
    · show 24 ≤ zev M (if F 0 = true then 1 else 0)
      split <;> exact Nat.le_refl _
    · show zm M (if F 0 = true then 1 else 0) s = F s
      by_cases h0 : s = 0
      · subst h0
        by_cases h : F 0 = true
        · rw [if_pos h, zm_one, h]; rfl
        · rw [if_neg h, zm_zero, Bool.eq_false_iff.2 h]
      · have hfs : F s = false := by
          cases h : F s with
          | false => rfl
          | true =>
            exfalso
            obtain ⟨j, hj⟩ := Nat.exists_testBit_of_ne_zero h0
            have := hF s h j hj
            omega
        rw [hfs]
        split
        · rw [zm_one]; exact beq_eq_false_iff_ne.2 h0
        · exact zm_zero _ _
  | succ k ih =>
    intro hk M F hg hF
    have e : 24 - (k + 1) = 23 - k := by omega
    rw [e] at hF ⊢
    have h1 := ih (by omega) M (zlo F (23 - k)) hg (hF.lo (by omega))
    have h2 := ih (by omega) _ (zhi F (23 - k)) h1.good (hF.hi (by omega))
    have e2 : 24 - k = (23 - k) + 1 := by omega
    rw [e2] at h1 h2
    exact zhalf_step (by omega) (zhalf_lohi F (23 - k)) h1 h2
theorem zadd_none : ∀ k M, zadd k M (fun _ => false) = (M, 0) := by
  intro k
  induction k with
  | zero => intro M; rfl
  | succ k ih =>
    intro M
    have e1 : zlo (fun _ => false) (23 - k) = fun _ => false := by funext s; rfl
    have e2 : zhi (fun _ => false) (23 - k) = fun _ => false := by funext s; rfl
    unfold zadd
    simp only [e1, e2, ih]
    unfold zput
    rw [if_pos rfl]
/-- No set has the first event: nothing is made for it. -/
theorem zadd_skip {k : Nat} {M : List ZNode} {F : Nat → Bool} (h : ∀ s, F s = true → s.testBit (23 - k) = false) : zadd (k + 1) M F = zadd k M F := by
  have e1 : zlo F (23 - k) = F := by
    funext s
    unfold zlo
    cases hs : F s with
    | false => rfl
    | true => rw [h s hs]; rfl
  have e2 : zhi F (23 - k) = fun _ => false := by
    funext s
    unfold zhi
    cases hb : s.testBit (23 - k) with
    | true => simp
    | false =>
      cases hs : F (s ^^^ 2 ^ (23 - k)) with
      | false => rfl
      | true => have := h _ hs; rw [flip_on hb] at this; cases this
  rw [zadd]
  simp only [e1, e2, zadd_none]
  unfold zput
  rw [if_pos rfl]
theorem zadd_down {M : List ZNode} {F : Nat → Bool} {v : Nat} (hv : v ≤ 24) (h : ∀ s, F s = true → ∀ j, s.testBit j = true → v ≤ j) : ∀ d, d ≤ v → zadd (24 - v + d) M F = zadd (24 - v) M F := by
  intro d
  induction d with
  | zero => intro _; rfl
  | succ d ih =>
    intro hd
    rw [← ih (by omega), show 24 - v + (d + 1) = (24 - v + d) + 1 by omega]
    refine zadd_skip fun s hs => ?_
    cases hb : s.testBit (23 - (24 - v + d)) with
    | false => rfl
    | true => have := h s hs _ hb; omega
/-- What is there already is found. -/
theorem zadd_old {M : List ZNode} (hg : ZGood M) : ∀ k, k ≤ 24 → ∀ x, x ≤ 1 + M.length → 24 - k ≤ zev M x → zadd k M (zm M x) = (M, x) := by
  intro k
  induction k with
  | zero =>
    intro _ x hx hz
    have h2 : x < 2 := by
      rcases Nat.lt_or_ge x 2 with h | h
      · exact h
      · obtain ⟨i, rfl⟩ : ∃ i, x = i + 2 := ⟨x - 2, by omega⟩
        have hi : i < M.length := by omega
        rw [zev_node hi] at hz
        have := hg.ev i hi
        omega
    rcases (show x = 0 ∨ x = 1 by omega) with rfl | rfl
    · show (M, if zm M 0 0 = true then 1 else 0) = _
      rw [zm_zero]; rfl
    · show (M, if zm M 1 0 = true then 1 else 0) = _
      rw [zm_one]; rfl
  | succ k ih =>
    intro hk x hx hz
    have hv : 23 - k ≤ zev M x := by omega
    have kk := zkids_ok hg hx (show 23 - k < 24 by omega) hv
    obtain ⟨u1, u2⟩ := zhalf_uniq (kk.half hg)
    rw [zadd]
    rw [u1, ih (by omega) _ kk.lo.1 (by have := kk.lo.2; omega)]
    simp only
    rw [u2, ih (by omega) _ kk.hi.1 (by have := kk.hi.2; omega)]
    simp only
    unfold zkids
    by_cases h : zev M x = 23 - k
    · rw [if_pos h]
      have h2 : ¬ x < 2 := fun h2 => by unfold zev at h; rw [if_pos h2] at h; omega
      obtain ⟨i, rfl⟩ : ∃ i, x = i + 2 := ⟨x - 2, by omega⟩
      have hi : i < M.length := by omega
      rw [zev_node hi] at h
      have e1 : (M.map ZNode.lo).getD (i + 2 - 2) 0 = M[i].lo := by rw [show i + 2 - 2 = i by omega, List.getD_eq_getElem?_getD, List.getElem?_map, List.getElem?_eq_getElem hi]; rfl
      have e2 : (M.map ZNode.hi).getD (i + 2 - 2) 0 = M[i].hi := by rw [show i + 2 - 2 = i by omega, List.getD_eq_getElem?_getD, List.getElem?_map, List.getElem?_eq_getElem hi]; rfl
      rw [e1, e2]
      have e3 : (⟨23 - k, M[i].lo, M[i].hi⟩ : ZNode) = M[i] := by rw [← h]
      unfold zput
      simp only [e3]
      rw [if_neg (hg.hi i hi).2.1, if_pos (List.getElem_mem hi)]
      have h5 : M.idxOf M[i] < M.length := List.idxOf_lt_length_iff.2 (List.getElem_mem hi)
      have := hg.one (M.idxOf M[i]) i h5 hi (List.getElem_idxOf h5)
      rw [this, Nat.add_comm]
    · rw [if_neg h]
      unfold zput
      rw [if_pos rfl]
/-- The number of a reference behind a walk. -/
def zx (l : List Nat) (r : Nat) : Nat := if r < 2 then r else 2 + l.idxOf r
/-- A walk: what has been visited, in the order in which it was left, and the new nodes. -/
def zwalk (N : List ZNode) : Nat → Nat → List Nat × List ZNode → List Nat × List ZNode
  | 0, _, s => s
  | k + 1, r, s => if r < 2 ∨ r ∈ s.1 then s else match N[r - 2]? with
    | none => s
    | some n =>
      let s1 := zwalk N k n.lo s
      let s2 := zwalk N k n.hi s1
      (s2.1 ++ [r], s2.2 ++ [⟨n.v, zx s2.1 n.lo, zx s2.1 n.hi⟩])
structure ZSt (N : List ZNode) (s : List Nat × List ZNode) : Prop where
  good : ZGood s.2
  len : s.2.length = s.1.length
  rng : ∀ r ∈ s.1, 2 ≤ r ∧ r ≤ 1 + N.length
  mem : ∀ i (h : i < s.1.length) t, zm s.2 (2 + i) t = zm N s.1[i] t
  node : ∀ i (h : i < s.1.length) (h2 : i < s.2.length), ∃ n, N[s.1[i] - 2]? = some n ∧ s.2[i] = ⟨n.v, zx s.1 n.lo, zx s.1 n.hi⟩ ∧ (n.lo < 2 ∨ n.lo ∈ s.1) ∧ (n.hi < 2 ∨ n.hi ∈ s.1)
theorem ZSt.start (N : List ZNode) : ZSt N ([], []) :=
  ⟨⟨fun i h => by simp at h, fun i h => by simp at h, fun i h => by simp at h, fun i j h => by simp at h⟩, rfl, fun r h => by simp at h, fun i h => by simp at h, fun i h => by simp at h⟩
/-- A visited reference has its number, and the same sets. -/
theorem ZSt.num {N : List ZNode} {s : List Nat × List ZNode} (h : ZSt N s) {r : Nat} (hr : r < 2 ∨ r ∈ s.1) : zx s.1 r ≤ 1 + s.2.length ∧ ∀ t, zm s.2 (zx s.1 r) t = zm N r t := by
  unfold zx
  by_cases h2 : r < 2
  · rw [if_pos h2]
    refine ⟨by omega, fun t => ?_⟩
    rcases (show r = 0 ∨ r = 1 by omega) with rfl | rfl
    · rw [zm_zero, zm_zero]
    · rw [zm_one, zm_one]
  · rw [if_neg h2]
    have hm : r ∈ s.1 := hr.resolve_left h2
    have hi : s.1.idxOf r < s.1.length := List.idxOf_lt_length_iff.2 hm
    refine ⟨by rw [h.len]; omega, fun t => ?_⟩
    rw [h.mem _ hi, List.getElem_idxOf hi]
theorem zx_app {l : List Nat} {r : Nat} (hr : r < 2 ∨ r ∈ l) (e : List Nat) : zx (l ++ e) r = zx l r := by
  unfold zx
  by_cases h2 : r < 2
  · rw [if_pos h2, if_pos h2]
  · rw [if_neg h2, if_neg h2, List.idxOf_append, if_pos (hr.resolve_left h2)]
theorem zx_new {l : List Nat} {r : Nat} (h2 : ¬ r < 2) (hr : r ∉ l) : zx (l ++ [r]) r = 2 + l.length := by
  unfold zx
  rw [if_neg h2, List.idxOf_append, if_neg hr]
  simp
/-- What a walk leaves. -/
structure ZWk (N : List ZNode) (r : Nat) (s s' : List Nat × List ZNode) : Prop where
  st : ZSt N s'
  ext : ∃ e, s'.1 = s.1 ++ e ∧ ∀ x ∈ e, x ≤ r
  done : r < 2 ∨ r ∈ s'.1
  add : ∀ k, k ≤ 24 → 24 - k ≤ zev N r → zadd k s.2 (zm N r) = (s'.2, zx s'.1 r)
theorem zm_zadd {N : List ZNode} (hg : ZGood N) {M : List ZNode} {r v : Nat} (hr : r ≤ 1 + N.length) (hv : v = zev N r) {k : Nat} (hk : k ≤ 24) (hk2 : 24 - k ≤ v) : zadd k M (zm N r) = zadd (24 - v) M (zm N r) := by
  have h24 := zev_le hg r
  have e : k = 24 - v + (k - (24 - v)) := by omega
  rw [e]
  exact zadd_down (by omega) (fun s hs j hj => by rw [hv]; exact (zm_low hg r hr s hs j hj).1) _ (by omega)
theorem zwalk_ok {N : List ZNode} (hg : ZGood N) : ∀ r, r ≤ 1 + N.length → ∀ k, r ≤ k → ∀ s, ZSt N s → ZWk N r s (zwalk N k r s) := by
  intro r
  induction r using Nat.strongRecOn with
  | ind r ih =>
    intro hr k hk s hs
    have old : (r < 2 ∨ r ∈ s.1) → ZWk N r s s := fun h => by
      refine ⟨hs, ⟨[], by simp, by simp⟩, h, fun k hk hz => ?_⟩
      obtain ⟨h1, h2⟩ := hs.num h
      have e : zm N r = zm s.2 (zx s.1 r) := funext fun t => (h2 t).symm
      rw [e]
      refine zadd_old hs.good k hk _ h1 ?_
      refine zev_ge hs.good h1 (by omega) fun t ht j hj => ?_
      rw [h2] at ht
      have := (zm_low hg r hr t ht j hj).1
      omega
    by_cases h0 : r < 2 ∨ r ∈ s.1
    · cases k with
      | zero => exact old h0
      | succ k =>
        have e : zwalk N (k + 1) r s = s := by unfold zwalk; rw [if_pos h0]
        rw [e]
        exact old h0
    · have h2 : ¬ r < 2 := fun h => h0 (.inl h)
      have hm : r ∉ s.1 := fun h => h0 (.inr h)
      obtain ⟨k, rfl⟩ : ∃ x, k = x + 1 := ⟨k - 1, by omega⟩
      obtain ⟨i, rfl⟩ : ∃ i, r = i + 2 := ⟨r - 2, by omega⟩
      have hi : i < N.length := by omega
      have hlo := hg.lo i hi
      have hhi := hg.hi i hi
      have hv := hg.ev i hi
      have w1 := ih N[i].lo (by omega) (by omega) k (by omega) s hs
      obtain ⟨s1, hs1⟩ : ∃ s1, s1 = zwalk N k N[i].lo s := ⟨_, rfl⟩
      rw [← hs1] at w1
      have w2 := ih N[i].hi (by omega) (by omega) k (by omega) s1 w1.st
      obtain ⟨s2, hs2⟩ : ∃ s2, s2 = zwalk N k N[i].hi s1 := ⟨_, rfl⟩
      rw [← hs2] at w2
      have e : zwalk N (k + 1) (i + 2) s = (s2.1 ++ [i + 2], s2.2 ++ [⟨N[i].v, zx s2.1 N[i].lo, zx s2.1 N[i].hi⟩]) := by
        rw [zwalk, if_neg h0, show i + 2 - 2 = i by omega, List.getElem?_eq_getElem hi]
        simp only [← hs1, ← hs2]
      rw [e]
      obtain ⟨e1, he1, hb1⟩ := w1.ext
      obtain ⟨e2, he2, hb2⟩ := w2.ext
      have hnm : i + 2 ∉ s2.1 := by
        rw [he2, he1]
        intro h
        rcases List.mem_append.1 h with h | h
        · rcases List.mem_append.1 h with h | h
          · exact hm h
          · have := hb1 _ h; omega
        · have := hb2 _ h; omega
      have dlo : N[i].lo < 2 ∨ N[i].lo ∈ s2.1 := w1.done.imp id fun h => by rw [he2]; exact List.mem_append_left _ h
      have dhi := w2.done
      obtain ⟨nl1, nl2⟩ := w2.st.num dlo
      obtain ⟨nh1, nh2⟩ := w2.st.num dhi
      have a1 := w1.add (23 - N[i].v) (by omega) (by omega)
      have a2 := w2.add (23 - N[i].v) (by omega) (by omega)
      have xlo : zx s1.1 N[i].lo = zx s2.1 N[i].lo := by rw [he2]; exact (zx_app w1.done e2).symm
      rw [xlo] at a1
      obtain ⟨n, hn⟩ : ∃ n : ZNode, n = ⟨N[i].v, zx s2.1 N[i].lo, zx s2.1 N[i].hi⟩ := ⟨_, rfl⟩
      -- the node is new
      have glo : N[i].v < zev s2.2 (zx s2.1 N[i].lo) := Nat.lt_of_lt_of_le hlo.2 (zev_ge w2.st.good nl1 (zev_le hg _) fun t ht j hj => by rw [nl2] at ht; exact (zm_low hg _ (by omega) t ht j hj).1)
      have ghi : N[i].v < zev s2.2 (zx s2.1 N[i].hi) := Nat.lt_of_lt_of_le hhi.2.2 (zev_ge w2.st.good nh1 (zev_le hg _) fun t ht j hj => by rw [nh2] at ht; exact (zm_low hg _ (by omega) t ht j hj).1)
      have hh0 : zx s2.1 N[i].hi ≠ 0 := fun h => by
        obtain ⟨t, ht⟩ := zm_some hg N[i].hi (by omega) hhi.2.1
        rw [← nh2, h, zm_zero] at ht
        cases ht
      have hmem : ∀ t, (if t.testBit N[i].v = true then zm s2.2 (zx s2.1 N[i].hi) (t ^^^ 2 ^ N[i].v) else zm s2.2 (zx s2.1 N[i].lo) t) = zm N (i + 2) t := fun t => by
        rw [zm_node hg hi, nh2, nl2]
      have hp := zput_ok w2.st.good n (by rw [hn]; exact hv) (by rw [hn]; exact ⟨nl1, glo⟩) (by rw [hn]; exact ⟨nh1, fun _ => ghi⟩)
      have hnew : n ∉ s2.2 := fun h => by
        obtain ⟨j, hj, ej⟩ := List.getElem_of_mem h
        have hj1 : j < s2.1.length := by rw [← w2.st.len]; exact hj
        have hx := w2.st.mem j hj1
        have hy : ∀ t, zm N s2.1[j] t = zm N (i + 2) t := fun t => by
          rw [← hx, Nat.add_comm, zm_node w2.st.good hj, ej, hn]
          exact hmem t
        have := zm_inj hg _ (w2.st.rng _ (List.getElem_mem hj1)).2 _ hr hy
        exact hnm (this ▸ List.getElem_mem hj1)
      have ezp : zput s2.2 n = (s2.2 ++ [n], 2 + s2.2.length) := by
        unfold zput
        rw [if_neg (by rw [hn]; exact hh0), if_neg hnew]
      rw [← hn]
      rw [ezp] at hp
      have el : ∀ {r : Nat}, (r < 2 ∨ r ∈ s2.1) → zx (s2.1 ++ [i + 2]) r = zx s2.1 r := fun h => zx_app h _
      refine ⟨⟨hp.good, by simp [w2.st.len], fun r h => ?_, fun j hj t => ?_, fun j hj hj2 => ?_⟩, ⟨e1 ++ e2 ++ [i + 2], by simp [he2, he1], fun x hx => ?_⟩, .inr (by simp), fun k2 hk2 hz => ?_⟩
      · rcases List.mem_append.1 h with h | h
        · exact w2.st.rng r h
        · simp at h; omega
      · by_cases h3 : j < s2.1.length
        · have h4 : zm (s2.2 ++ [n]) (2 + j) t = zm s2.2 (2 + j) t := zm_ext w2.st.good hp.good _ (by rw [w2.st.len]; omega) t
          show zm (s2.2 ++ [n]) (2 + j) t = zm N ((s2.1 ++ [i + 2])[j]) t
          rw [h4, w2.st.mem j h3, List.getElem_append_left h3]
        · have hje : j = s2.1.length := by simp at hj; omega
          subst hje
          show zm (s2.2 ++ [n]) (2 + s2.1.length) t = zm N ((s2.1 ++ [i + 2])[s2.1.length]) t
          have eg : ∀ (h : s2.1.length < (s2.1 ++ [i + 2]).length), (s2.1 ++ [i + 2])[s2.1.length]'h = i + 2 := fun h => by simp
          rw [eg, ← w2.st.len, hp.mem]
          simp only [hn]
          exact hmem t
      · by_cases h3 : j < s2.1.length
        · have h3' : j < s2.2.length := by rw [w2.st.len]; exact h3
          obtain ⟨m, m1, m2, m3, m4⟩ := w2.st.node j h3 h3'
          refine ⟨m, ?_, ?_, m3.imp id (List.mem_append_left _), m4.imp id (List.mem_append_left _)⟩
          · show N[(s2.1 ++ [i + 2])[j] - 2]? = some m
            rw [List.getElem_append_left h3]; exact m1
          · show (s2.2 ++ [n])[j] = _
            rw [List.getElem_append_left h3', m2]
            show _ = (⟨m.v, zx (s2.1 ++ [i + 2]) m.lo, zx (s2.1 ++ [i + 2]) m.hi⟩ : ZNode)
            rw [el m3, el m4]
        · have hje : j = s2.1.length := by simp at hj; omega
          subst hje
          refine ⟨N[i], ?_, ?_, dlo.imp id (List.mem_append_left _), dhi.imp id (List.mem_append_left _)⟩
          · show N[(s2.1 ++ [i + 2])[s2.1.length] - 2]? = some N[i]
            simp [hi]
          · show (s2.2 ++ [n])[s2.1.length] = (⟨N[i].v, zx (s2.1 ++ [i + 2]) N[i].lo, zx (s2.1 ++ [i + 2]) N[i].hi⟩ : ZNode)
            rw [el dlo, el dhi, ← hn]
            simp [← w2.st.len]
      · rcases List.mem_append.1 hx with hx | hx
        · rcases List.mem_append.1 hx with hx | hx
          · have := hb1 x hx; omega
          · have := hb2 x hx; omega
        · simp at hx; omega
      · rw [zm_zadd hg hr (zev_node hi).symm hk2 (by rw [zev_node hi] at hz; exact hz), show 24 - N[i].v = (23 - N[i].v) + 1 by omega, zadd]
        have e9 : 23 - (23 - N[i].v) = N[i].v := by omega
        obtain ⟨u1, u2⟩ := zhalf_uniq (v := N[i].v) (F := zm N (i + 2)) (F0 := zm N N[i].lo) (F1 := zm N N[i].hi) (ZKids.half hg (k := (N[i].lo, N[i].hi)) ⟨⟨by show N[i].lo ≤ _; omega, hlo.2⟩, ⟨by show N[i].hi ≤ _; omega, hhi.2.2⟩, fun s => zm_node hg hi s⟩)
        rw [e9, u1, a1]
        simp only
        rw [u2, a2]
        simp only
        rw [← hn, ezp, zx_new h2 hnm, w2.st.len]
end Go.Proofs.Ytiplibgnfcdlkaa
