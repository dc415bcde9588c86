/-
  Plain: minimal families are the ones of the upward closed sets of masks; the closure of Plus and Product.
-/
import Derived.Test.YtcgfjacidjebaaaE5
namespace Go.Proofs.Ytcgfjacidjebaaa

theorem subN_iff {a b : Nat} : subN a b = true ↔ ∀ i, a.testBit i = true → b.testBit i = true := by
  unfold subN sdiff
  rw [beq_iff_eq]
  constructor
  · intro h i hi
    have h1 : (a ^^^ (a &&& b)).testBit i = false := by rw [h]; simp
    simp [hi] at h1
    exact h1
  · intro h
    apply Nat.eq_of_testBit_eq
    intro i
    simp only [Nat.testBit_xor, Nat.testBit_and, Nat.zero_testBit]
    cases ha : a.testBit i with
    | false => simp
    | true => simp [h i ha]
theorem subN_refl (a : Nat) : subN a a = true := subN_iff.2 fun _ h => h
theorem subN_tr {a b c : Nat} (h1 : subN a b = true) (h2 : subN b c = true) : subN a c = true := subN_iff.2 fun i h => subN_iff.1 h2 i (subN_iff.1 h1 i h)
theorem subN_half {a b : Nat} (h : subN a b = true) : a % 2 ≤ b % 2 ∧ subN (a / 2) (b / 2) = true := by
  have h' := subN_iff.1 h
  refine ⟨?_, subN_iff.2 fun i hi => ?_⟩
  · have h0 := h' 0
    simp only [Nat.testBit_zero, decide_eq_true_eq] at h0
    omega
  · have h0 := h' (i + 1)
    simp only [Nat.testBit_succ] at h0
    exact h0 hi
theorem pc_sub (n : Nat) : ∀ a b, b ≤ n → subN a b = true → pc a ≤ pc b ∧ (pc a = pc b → a = b) := by
  induction n using Nat.strongRecOn with
  | ind n ih =>
    intro a b hb h
    by_cases h0 : b = 0
    · subst h0
      have : a = 0 := by
        apply Nat.eq_of_testBit_eq
        intro i
        cases ha : a.testBit i with
        | false => simp
        | true => have := subN_iff.1 h i ha; simp at this
      subst this
      exact ⟨Nat.le_refl _, fun _ => rfl⟩
    · obtain ⟨h1, h2⟩ := subN_half h
      have := ih (b / 2) (by omega) (a / 2) (b / 2) (Nat.le_refl _) h2
      rw [pc_one a, pc_one b]
      refine ⟨by omega, fun he => ?_⟩
      have e2 : pc (a / 2) = pc (b / 2) := by omega
      have := this.2 e2
      omega
theorem subN_le {a b : Nat} (h : subN a b = true) : pc a ≤ pc b ∧ (pc a = pc b → a = b) := pc_sub b a b (Nat.le_refl _) h
theorem subN_anti {a b : Nat} (h1 : subN a b = true) (h2 : subN b a = true) : a = b := by
  have := subN_le h1; have := subN_le h2; exact (subN_le h1).2 (by omega)
theorem not_lt_sub {a b : Nat} (h : subN a b = true) (h2 : ltK b a) : False := by
  have h1 := subN_le h
  unfold ltK at h2
  rcases h2 with h2 | h2
  · omega
  · have := h1.2 (by omega); omega

theorem mem_foldN (l : List Nat) : ∀ out x, (out ++ l).Pairwise ltK → (x ∈ l.foldl keepN out ↔ x ∈ out ∨ x ∈ l ∧ ∀ y, y ∈ out ∨ y ∈ l → subN y x = true → y = x) := by
  induction l with
  | nil => intro out x _; simp
  | cons s l ih =>
    intro out x hp
    have hp' := List.pairwise_append.1 hp
    have hs := List.pairwise_cons.1 hp'.2.1
    show x ∈ l.foldl keepN (keepN out s) ↔ _
    by_cases hk : out.any (fun t => subN t s) = true
    · rw [show keepN out s = out from if_pos hk]
      obtain ⟨t, ht, hts⟩ := List.any_eq_true.1 hk
      rw [ih out x (List.pairwise_append.2 ⟨hp'.1, hs.2, fun a ha b hb => hp'.2.2 a ha b (List.mem_cons_of_mem _ hb)⟩)]
      constructor
      · rintro (h | ⟨h1, h2⟩)
        · exact .inl h
        · refine .inr ⟨List.mem_cons_of_mem _ h1, ?_⟩
          rintro y (hy | hy) hyx
          · exact h2 y (.inl hy) hyx
          · rcases List.mem_cons.1 hy with e | e
            · subst e
              have := h2 t (.inl ht) (subN_tr hts hyx)
              subst this
              exact absurd (hp'.2.2 t ht t (List.mem_cons_of_mem _ h1)) (ltK_irr t)
            · exact h2 y (.inr e) hyx
      · rintro (h | ⟨h1, h2⟩)
        · exact .inl h
        · rcases List.mem_cons.1 h1 with e | e
          · subst e
            have := h2 t (.inl ht) hts
            subst this
            exact absurd (hp'.2.2 t ht t (List.mem_cons_self ..)) (ltK_irr t)
          · exact .inr ⟨e, fun y hy => h2 y (hy.imp id (List.mem_cons_of_mem _))⟩
    · rw [show keepN out s = out ++ [s] from if_neg hk]
      rw [ih (out ++ [s]) x (by simpa using hp)]
      have hk' : ∀ t ∈ out, ¬ subN t s = true := fun t ht h => hk (List.any_eq_true.2 ⟨t, ht, h⟩)
      have ms : ∀ z, z ∈ out ++ [s] ↔ z ∈ out ∨ z = s := fun z => by simp
      simp only [ms, List.mem_cons]
      constructor
      · rintro ((h | h) | ⟨h1, h2⟩)
        · exact .inl h
        · subst h
          refine .inr ⟨.inl rfl, ?_⟩
          rintro y (hy | hy | hy) hyx
          · exact absurd hyx (hk' y hy)
          · exact hy
          · exact (not_lt_sub hyx (hs.1 y hy)).elim
        · refine .inr ⟨.inr h1, ?_⟩
          rintro y (hy | hy | hy) hyx
          · exact h2 y (.inl (.inl hy)) hyx
          · exact h2 y (.inl (.inr hy)) hyx
          · exact h2 y (.inr hy) hyx
      · rintro (h | ⟨h1 | h1, h2⟩)
        · exact .inl (.inl h)
        · exact .inl (.inr h1)
        · refine .inr ⟨h1, ?_⟩
          rintro y ((hy | hy) | hy) hyx
          · exact h2 y (.inl hy) hyx
          · exact h2 y (.inr (.inl hy)) hyx
          · exact h2 y (.inr (.inr hy)) hyx
theorem pair_foldN (l : List Nat) : ∀ out, (out ++ l).Pairwise ltK → (l.foldl keepN out).Pairwise ltK := by
  induction l with
  | nil => intro out h; simpa using h
  | cons s l ih =>
    intro out h
    show (l.foldl keepN (keepN out s)).Pairwise ltK
    by_cases hk : out.any (fun t => subN t s) = true
    · rw [show keepN out s = out from if_pos hk]
      refine ih out (List.Pairwise.sublist ?_ h)
      exact List.Sublist.append_left (List.sublist_cons_self s l) out
    · rw [show keepN out s = out ++ [s] from if_neg hk]
      exact ih _ (by simpa using h)
theorem mem_minK_iff (l : List Nat) (x : Nat) : x ∈ minK l ↔ x ∈ l ∧ ∀ y ∈ l, subN y x = true → y = x := by
  unfold minK minN
  rw [mem_foldN (sortK l) [] x (by simpa using pair_sortK l)]
  simp [mem_sortK]
theorem pair_minK (l : List Nat) : (minK l).Pairwise ltK := pair_foldN _ [] (by simpa using pair_sortK l)

/-- s contains a set of the list. -/
def up (l : List Nat) (s : Nat) : Prop := ∃ t ∈ l, subN t s = true
theorem exists_min (l : List Nat) : ∀ (n : Nat) (t : Nat), pc t ≤ n → t ∈ l → ∃ y ∈ minK l, subN y t = true := by
  intro n
  induction n with
  | zero =>
    intro t hn ht
    refine ⟨t, (mem_minK_iff l t).2 ⟨ht, fun y hy h => ?_⟩, subN_refl t⟩
    have := subN_le h
    exact this.2 (by omega)
  | succ n ih =>
    intro t hn ht
    by_cases h : ∃ y ∈ l, subN y t = true ∧ y ≠ t
    · obtain ⟨y, hy, h1, h2⟩ := h
      have := subN_le h1
      have h3 : pc y ≤ n := by
        by_cases e : pc y = pc t
        · exact absurd (this.2 e) h2
        · omega
      obtain ⟨z, hz, h4⟩ := ih y h3 hy
      exact ⟨z, hz, subN_tr h4 h1⟩
    · exact ⟨t, (mem_minK_iff l t).2 ⟨ht, fun y hy h1 => Classical.byContradiction fun h2 => h ⟨y, hy, h1, h2⟩⟩, subN_refl t⟩
theorem up_minK (l : List Nat) (s : Nat) : up (minK l) s ↔ up l s := by
  constructor
  · rintro ⟨t, ht, h⟩; exact ⟨t, mem_minK ht, h⟩
  · rintro ⟨t, ht, h⟩
    obtain ⟨y, hy, h2⟩ := exists_min l _ t (Nat.le_refl _) ht
    exact ⟨y, hy, subN_tr h2 h⟩
theorem minK_mem_of_up {l r : List Nat} (h : ∀ s, up l s ↔ up r s) {x : Nat} (hx : x ∈ minK l) : x ∈ minK r := by
  obtain ⟨h1, h2⟩ := (mem_minK_iff l x).1 hx
  obtain ⟨y, hy, hyx⟩ := (h x).1 ⟨x, h1, subN_refl x⟩
  obtain ⟨z, hz, hzy⟩ := (h y).2 ⟨y, hy, subN_refl y⟩
  have e1 := h2 z hz (subN_tr hzy hyx)
  subst e1
  have e2 : y = z := subN_anti hyx hzy
  subst e2
  refine (mem_minK_iff r y).2 ⟨hy, fun w hw hwy => ?_⟩
  obtain ⟨v, hv, hvw⟩ := (h w).2 ⟨w, hw, subN_refl w⟩
  have e3 := h2 v hv (subN_tr hvw hwy)
  subst e3
  exact subN_anti hwy hvw
/-- The minimal sets are those of the closure. -/
theorem minK_of_up {l r : List Nat} (h : ∀ s, up l s ↔ up r s) : minK l = minK r :=
  pair_unique ltK ltK_irr ltK_tr _ _ (pair_minK l) (pair_minK r) fun _ => ⟨fun hx => minK_mem_of_up h hx, fun hx => minK_mem_of_up (fun s => (h s).symm) hx⟩
/-- The same over masks alone. -/
theorem minK_of_upMk {l r : List Nat} (hl : ∀ n ∈ l, Mk n) (hr : ∀ n ∈ r, Mk n) (h : ∀ s, Mk s → (up l s ↔ up r s)) : minK l = minK r := by
  have key : ∀ l : List Nat, (∀ n ∈ l, Mk n) → ∀ s, up l s ↔ up l (s % 16777216) := by
    intro l hl s
    have e : ∀ t, Mk t → (subN t s = true ↔ subN t (s % 16777216) = true) := by
      intro t ht
      rw [subN_iff, subN_iff]
      refine ⟨fun h i hi => ?_, fun h i hi => ?_⟩
      · have hi24 : i < 24 := by
          rcases Nat.lt_or_ge i 24 with h9 | h9
          · exact h9
          · rw [Nat.testBit_lt_two_pow (Nat.lt_of_lt_of_le (show t < 2 ^ 24 from ht) (Nat.pow_le_pow_right (by omega) h9))] at hi; cases hi
        rw [show (16777216 : Nat) = 2 ^ 24 from rfl, Nat.testBit_mod_two_pow]
        simp [hi24, h i hi]
      · have h1 := h i hi
        rw [show (16777216 : Nat) = 2 ^ 24 from rfl, Nat.testBit_mod_two_pow] at h1
        simp at h1
        exact h1.2
    constructor
    · rintro ⟨t, ht, h⟩; exact ⟨t, ht, (e t (hl t ht)).1 h⟩
    · rintro ⟨t, ht, h⟩; exact ⟨t, ht, (e t (hl t ht)).2 h⟩
  refine minK_of_up fun s => ?_
  rw [key l hl s, key r hr s]
  exact h _ (show s % 16777216 < 16777216 by omega)
/-- A family as it is stored: sorted, no set in another one. -/
def Can (l : List Nat) : Prop := minK l = l
theorem can_minK (l : List Nat) : Can (minK l) := minK_of_up fun s => up_minK l s
theorem can_eq {l r : List Nat} (hl : Can l) (hr : Can r) (h : ∀ s, up l s ↔ up r s) : l = r := by
  have := minK_of_up h
  rw [hl, hr] at this
  exact this
theorem can_eqMk {l r : List Nat} (hl : Can l) (hr : Can r) (ml : ∀ n ∈ l, Mk n) (mr : ∀ n ∈ r, Mk n) (h : ∀ s, Mk s → (up l s ↔ up r s)) : l = r := by
  have := minK_of_upMk ml mr h
  rw [hl, hr] at this
  exact this
theorem up_nil (s : Nat) : ¬ up [] s := by rintro ⟨t, h, _⟩; cases h
theorem zero_sub (s : Nat) : subN 0 s = true := subN_iff.2 fun i h => by simp at h
theorem up_zero (s : Nat) : up [0] s := ⟨0, by simp, zero_sub s⟩
theorem can_nil : Can [] := rfl
theorem can_one (x : Nat) : Can [x] := by
  have h1 : ∀ y, y ∈ minK [x] ↔ y ∈ [x] := fun y => by rw [mem_minK_iff]; simp; intro h _; exact h.symm
  exact pair_unique ltK ltK_irr ltK_tr _ _ (pair_minK [x]) (by simp) h1
theorem up_append (a b : List Nat) (s : Nat) : up (a ++ b) s ↔ up a s ∨ up b s := by
  unfold up
  constructor
  · rintro ⟨t, h, h2⟩
    rcases List.mem_append.1 h with h | h
    · exact .inl ⟨t, h, h2⟩
    · exact .inr ⟨t, h, h2⟩
  · rintro (⟨t, h, h2⟩ | ⟨t, h, h2⟩)
    · exact ⟨t, List.mem_append.2 (.inl h), h2⟩
    · exact ⟨t, List.mem_append.2 (.inr h), h2⟩
theorem or_sub (x y s : Nat) : subN (x ||| y) s = true ↔ subN x s = true ∧ subN y s = true := by
  rw [subN_iff, subN_iff, subN_iff]
  constructor
  · intro h; exact ⟨fun i hi => h i (by simp [hi]), fun i hi => h i (by simp [hi])⟩
  · rintro ⟨h1, h2⟩ i hi
    simp at hi
    rcases hi with hi | hi
    · exact h1 i hi
    · exact h2 i hi
theorem up_allU (a b : List Nat) (s : Nat) : up (allU a b) s ↔ up a s ∧ up b s := by
  unfold up
  constructor
  · rintro ⟨t, h, h2⟩
    obtain ⟨x, hx, y, hy, rfl⟩ := (mem_allU a b t).1 h
    have := (or_sub x y s).1 h2
    exact ⟨⟨x, hx, this.1⟩, ⟨y, hy, this.2⟩⟩
  · rintro ⟨⟨x, hx, h1⟩, ⟨y, hy, h2⟩⟩
    exact ⟨x ||| y, (mem_allU a b _).2 ⟨x, hx, y, hy, rfl⟩, (or_sub x y s).2 ⟨h1, h2⟩⟩
theorem plusK_some {a b l : List Nat} (h : plusK a b = some l) : l = minK (a ++ b) ∧ l.length ≤ 1024 := by
  unfold plusK at h
  split at h
  · split at h
    · cases h; exact ⟨rfl, by assumption⟩
    · cases h
  · cases h
theorem productK_some {a b l : List Nat} (h : productK a b = some l) : l = minK (allU (minK a) (minK b)) ∧ l.length ≤ 1024 := by
  unfold productK at h
  split at h
  · split at h
    · cases h; exact ⟨rfl, by assumption⟩
    · cases h
  · cases h
theorem up_plusK {a b l : List Nat} (h : plusK a b = some l) (s : Nat) : up l s ↔ up a s ∨ up b s := by
  rw [(plusK_some h).1, up_minK, up_append]
theorem up_productK {a b l : List Nat} (h : productK a b = some l) (s : Nat) : up l s ↔ up a s ∧ up b s := by
  rw [(productK_some h).1, up_minK, up_allU, up_minK, up_minK]
theorem can_plusK {a b l : List Nat} (h : plusK a b = some l) : Can l := by rw [(plusK_some h).1]; exact can_minK _
theorem can_productK {a b l : List Nat} (h : productK a b = some l) : Can l := by rw [(productK_some h).1]; exact can_minK _
theorem foldK_cons (op : List Nat → List Nat → Option (List Nat)) (f a : List Nat) (l : List (List Nat)) : foldK op f (a :: l) = (op f a).bind fun g => foldK op g l := rfl
theorem up_foldOr (args : List (List Nat)) (s : Nat) : ∀ f l, foldK plusK f args = some l → (up l s ↔ up f s ∨ ∃ a ∈ args, up a s) := by
  induction args with
  | nil => intro f l h; cases h; simp
  | cons a args ih =>
    intro f l h
    rw [foldK_cons] at h
    cases h1 : plusK f a with
    | none => rw [h1] at h; cases h
    | some g =>
      rw [h1] at h
      rw [ih g l h, up_plusK h1]
      simp [or_assoc]
theorem up_foldAnd (args : List (List Nat)) (s : Nat) : ∀ f l, foldK productK f args = some l → (up l s ↔ up f s ∧ ∀ a ∈ args, up a s) := by
  induction args with
  | nil => intro f l h; cases h; simp
  | cons a args ih =>
    intro f l h
    rw [foldK_cons] at h
    cases h1 : productK f a with
    | none => rw [h1] at h; cases h
    | some g =>
      rw [h1] at h
      rw [ih g l h, up_productK h1]
      simp [and_assoc]
theorem can_fold (op : List Nat → List Nat → Option (List Nat)) (hop : ∀ a b l, op a b = some l → Can l) (args : List (List Nat)) : ∀ f l, Can f → foldK op f args = some l → Can l := by
  induction args with
  | nil => intro f l hf h; cases h; exact hf
  | cons a args ih =>
    intro f l hf h
    rw [foldK_cons] at h
    cases h1 : op f a with
    | none => rw [h1] at h; cases h
    | some g => rw [h1] at h; exact ih g l (hop _ _ _ h1) h
end Go.Proofs.Ytcgfjacidjebaaa
