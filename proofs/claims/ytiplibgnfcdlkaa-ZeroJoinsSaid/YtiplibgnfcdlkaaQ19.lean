import Derived.Test.YtiplibgnfcdlkaaQ04
/-
  Plain: the sets of a reference as a list; the order of lists of sets.
-/
namespace Go.Proofs.Ytiplibgnfcdlkaa

/-- The sets of a reference, as a walk meets them (so many steps at most). -/
def zlst (N : List ZNode) : Nat → Nat → List Nat
  | _, 0 => []
  | _, 1 => [0]
  | 0, _ + 2 => []
  | k + 1, r + 2 => match N[r]? with
    | none => []
    | some n => zlst N k n.lo ++ (zlst N k n.hi).map (fun s => s ||| 2 ^ n.v)
def zsets (N : List ZNode) (r : Nat) : List Nat := zlst N r r
theorem zlst_zero (N : List ZNode) (k : Nat) : zlst N k 0 = [] := by unfold zlst; rfl
theorem zlst_one (N : List ZNode) (k : Nat) : zlst N k 1 = [0] := by unfold zlst; rfl
theorem zlst_step {N : List ZNode} {k r : Nat} (h : r < N.length) : zlst N (k + 1) (r + 2) = zlst N k N[r].lo ++ (zlst N k N[r].hi).map (fun s => s ||| 2 ^ N[r].v) := by
  rw [zlst, List.getElem?_eq_getElem h]
theorem zlst_out {N : List ZNode} {k r : Nat} (h : N.length ≤ r) : zlst N k (r + 2) = [] := by
  cases k with
  | zero => rw [zlst]
  | succ k => rw [zlst, List.getElem?_eq_none h]
theorem zlst_fuel {N : List ZNode} (hg : ZGood N) : ∀ r k k', r ≤ k → r ≤ k' → zlst N k r = zlst N k' r := by
  intro r
  induction r using Nat.strongRecOn with
  | ind r ih =>
    intro k k' hk hk'
    match r, ih, hk, hk' with
    | 0, _, _, _ => rw [zlst_zero, zlst_zero]
    | 1, _, _, _ => rw [zlst_one, zlst_one]
    | r + 2, ih, hk, hk' =>
      by_cases h : r < N.length
      · obtain ⟨k, rfl⟩ : ∃ x, k = x + 1 := ⟨k - 1, by omega⟩
        obtain ⟨k', rfl⟩ : ∃ x, k' = x + 1 := ⟨k' - 1, by omega⟩
        have h1 := (hg.lo r h).1
        have h2 := (hg.hi r h).1
        rw [zlst_step h, zlst_step h, ih N[r].hi (by omega) k k' (by omega) (by omega), ih N[r].lo (by omega) k k' (by omega) (by omega)]
      · rw [zlst_out (by omega), zlst_out (by omega)]
theorem zsets_zero (N : List ZNode) : zsets N 0 = [] := zlst_zero N 0
theorem zsets_one (N : List ZNode) : zsets N 1 = [0] := zlst_one N 1
theorem zsets_node {N : List ZNode} (hg : ZGood N) {i : Nat} (h : i < N.length) : zsets N (i + 2) = zsets N N[i].lo ++ (zsets N N[i].hi).map (fun s => s ||| 2 ^ N[i].v) := by
  unfold zsets
  rw [zlst_step h, zlst_fuel hg N[i].hi (i + 1) N[i].hi (by have := (hg.hi i h).1; omega) (Nat.le_refl _), zlst_fuel hg N[i].lo (i + 1) N[i].lo (by have := (hg.lo i h).1; omega) (Nat.le_refl _)]
theorem zsets_len {N : List ZNode} (hg : ZGood N) : ∀ r, r ≤ 1 + N.length → (zsets N r).length = zct N r := by
  intro r
  induction r using Nat.strongRecOn with
  | ind r ih =>
    intro hr
    match r, ih, hr with
    | 0, _, _ => rw [zsets_zero, zct_zero]; rfl
    | 1, _, _ => rw [zsets_one, zct_one]; rfl
    | i + 2, ih, hr =>
      have h : i < N.length := by omega
      have h1 := (hg.lo i h).1
      have h2 := (hg.hi i h).1
      rw [zsets_node hg h, zct_node hg h, List.length_append, List.length_map, ih _ (by omega) (by omega), ih _ (by omega) (by omega)]
theorem or_flip_bit {s v : Nat} (h : s.testBit v = false) : s ||| 2 ^ v = s ^^^ 2 ^ v := Nat.eq_of_testBit_eq fun j => by
  rw [Nat.testBit_or, Nat.testBit_xor, Nat.testBit_two_pow]
  by_cases e : v = j
  · subst e; rw [h, decide_eq_true rfl]; rfl
  · rw [decide_eq_false e]; cases s.testBit j <;> rfl
theorem zsets_mem {N : List ZNode} (hg : ZGood N) : ∀ r, r ≤ 1 + N.length → ∀ s, s ∈ zsets N r ↔ zm N r s = true := by
  intro r
  induction r using Nat.strongRecOn with
  | ind r ih =>
    intro hr s
    match r, ih, hr with
    | 0, _, _ => rw [zsets_zero, zm_zero]; simp
    | 1, _, _ => rw [zsets_one, zm_one]; simp
    | i + 2, ih, hr =>
      have h : i < N.length := by omega
      have h1 := hg.lo i h
      have h2 := hg.hi i h
      have hh : ∀ u, zm N N[i].hi u = true → u.testBit N[i].v = false := fun u hu => by
        cases hb : u.testBit N[i].v with
        | false => rfl
        | true => have := (zm_low hg _ (by omega) u hu _ hb).1; omega
      rw [zsets_node hg h, List.mem_append, ih _ (by omega) (by omega), List.mem_map, zm_node hg h]
      by_cases hb : s.testBit N[i].v = true
      · rw [if_pos hb]
        constructor
        · rintro (h3 | ⟨u, hu, rfl⟩)
          · have := (zm_low hg _ (by omega) s h3 _ hb).1; omega
          · rw [ih _ (by omega) (by omega)] at hu
            rw [or_flip_bit (hh u hu), flip_flip]
            exact hu
        · intro h3
          refine .inr ⟨s ^^^ 2 ^ N[i].v, (ih _ (by omega) (by omega) _).2 h3, ?_⟩
          rw [or_flip_bit (flip_off hb), flip_flip]
      · rw [if_neg hb]
        constructor
        · rintro (h3 | ⟨u, hu, rfl⟩)
          · exact h3
          · exfalso
            apply hb
            rw [Nat.testBit_or, Nat.testBit_two_pow, decide_eq_true rfl, Bool.or_true]
        · exact .inl
theorem zsets_nodup {N : List ZNode} (hg : ZGood N) : ∀ r, r ≤ 1 + N.length → (zsets N r).Nodup := by
  intro r
  induction r using Nat.strongRecOn with
  | ind r ih =>
    intro hr
    match r, ih, hr with
    | 0, _, _ => rw [zsets_zero]; exact List.nodup_nil
    | 1, _, _ => rw [zsets_one]; simp
    | i + 2, ih, hr =>
      have h : i < N.length := by omega
      have h1 := hg.lo i h
      have h2 := hg.hi i h
      have hh : ∀ u, u ∈ zsets N N[i].hi → u.testBit N[i].v = false := fun u hu => by
        rw [zsets_mem hg _ (by omega)] at hu
        cases hb : u.testBit N[i].v with
        | false => rfl
        | true => have := (zm_low hg _ (by omega) u hu _ hb).1; omega
      rw [zsets_node hg h]
      refine List.nodup_append.2 ⟨ih _ (by omega) (by omega), ?_, fun a ha b hb e => ?_⟩
      · have hn := ih N[i].hi (by omega) (by omega)
        rw [List.nodup_iff_pairwise_ne, List.pairwise_map]
        refine (List.nodup_iff_pairwise_ne.1 hn).imp_of_mem fun {a b} ha hb hne e => hne ?_
        rw [or_flip_bit (hh a ha), or_flip_bit (hh b hb)] at e
        rw [← flip_flip a N[i].v, e, flip_flip]
      · obtain ⟨u, hu, rfl⟩ := List.mem_map.1 hb
        rw [zsets_mem hg _ (by omega)] at ha
        have hb2 : (u ||| 2 ^ N[i].v).testBit N[i].v = true := by rw [Nat.testBit_or, Nat.testBit_two_pow, decide_eq_true rfl, Bool.or_true]
        rw [e] at ha
        have := (zm_low hg _ (by omega) _ ha _ hb2).1
        omega
theorem zbits_lt {s : Nat} (h : ∀ j, s.testBit j = true → j < 24) : s < 16777216 := by
  apply Nat.lt_pow_two_of_testBit (n := 24)
  intro j hj
  cases hb : s.testBit j with
  | false => rfl
  | true => have := h j hb; omega
theorem zsets_lt {N : List ZNode} (hg : ZGood N) {r : Nat} (hr : r ≤ 1 + N.length) {s : Nat} (hs : s ∈ zsets N r) : s < 16777216 :=
  zbits_lt fun j hj => (zm_low hg r hr s ((zsets_mem hg r hr s).1 hs) j hj).2
/-- By the number of elements, then by the mask. -/
def zlt (a b : Nat) : Prop := pc a < pc b ∨ pc a = pc b ∧ a < b
instance (a b : Nat) : Decidable (zlt a b) := by unfold zlt; infer_instance
theorem zlt_irr (a : Nat) : ¬ zlt a a := by unfold zlt; omega
theorem zlt_tr {a b c : Nat} (h : zlt a b) (k : zlt b c) : zlt a c := by unfold zlt at *; omega
theorem zlt_total (a b : Nat) : zlt a b ∨ a = b ∨ zlt b a := by unfold zlt; omega
/-- The list of a family, sorted. -/
structure ZSorted (F : Nat → Bool) (R : List Nat) : Prop where
  ord : R.Pairwise zlt
  mem : ∀ s, s ∈ R ↔ F s = true
theorem sorted_eq : ∀ {A B : List Nat}, A.Pairwise zlt → B.Pairwise zlt → (∀ s, s ∈ A ↔ s ∈ B) → A = B := by
  intro A
  induction A with
  | nil =>
    intro B _ _ h
    cases B with
    | nil => rfl
    | cons b B => exact absurd ((h b).2 List.mem_cons_self) (by simp)
  | cons a A ih =>
    intro B hA hB h
    cases B with
    | nil => exact absurd ((h a).1 List.mem_cons_self) (by simp)
    | cons b B =>
      obtain ⟨a1, a2⟩ := List.pairwise_cons.1 hA
      obtain ⟨b1, b2⟩ := List.pairwise_cons.1 hB
      have e : a = b := by
        rcases List.mem_cons.1 ((h a).1 List.mem_cons_self) with e | e
        · exact e
        · rcases List.mem_cons.1 ((h b).2 List.mem_cons_self) with e2 | e2
          · exact e2.symm
          · exact absurd (zlt_tr (a1 b e2) (b1 a e)) (zlt_irr a)
      subst e
      rw [ih a2 b2 fun s => ?_]
      have hs := h s
      constructor
      · intro hm
        rcases List.mem_cons.1 (hs.1 (List.mem_cons_of_mem _ hm)) with e | e
        · subst e; exact absurd (a1 s hm) (zlt_irr s)
        · exact e
      · intro hm
        rcases List.mem_cons.1 (hs.2 (List.mem_cons_of_mem _ hm)) with e | e
        · subst e; exact absurd (b1 s hm) (zlt_irr s)
        · exact e
theorem ZSorted.uniq {F : Nat → Bool} {A B : List Nat} (h : ZSorted F A) (k : ZSorted F B) : A = B := sorted_eq h.ord k.ord fun s => by rw [h.mem, k.mem]
end Go.Proofs.Ytiplibgnfcdlkaa
