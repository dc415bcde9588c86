import Derived.Test.YtiplibgnfcdlkaaQ01
import Derived.Lib.SlicesCompact
import Derived.Shelf.SlSortCmp.NoneTotal
/-
  Walks: sets.Valid, Cut, Has, Subset; slices.IndexFunc, ContainsFunc at []int.
-/
namespace Go.Proofs.Ytiplibgnfcdlkaa
open Go.RowKit

def subB (a b : Int) : Bool := bits .andNot .i64 (bits .and .i64 a 16777215) b == 0
/-- A function value that decides p, wherever it is called. -/
def Decides (g : Nat) (lb : Array Value) (p : Int → Bool) (w : World) : Prop :=
  ∀ (W : World) (x : Int), Kept w W → Calls Try.prog g (#[.int .i64 x] ++ lb) W fun e W' => e = .returned (.bool (p x)) ∧ Kept W W'

end Go.Proofs.Ytiplibgnfcdlkaa

/-
  Walks: slices.ContainsFunc; family.minimal.
-/
namespace Go.Proofs.Ytiplibgnfcdlkaa
open Go.RowKit

def keepMin (out : List Int) (s : Int) : List Int := if out.any (fun t => subB t s) then out else out ++ [s]
def minOf (l : List Int) : List Int := l.foldl keepMin []
theorem keepMin_len (l : List Int) : ∀ out, (l.foldl keepMin out).length ≤ out.length + l.length := by
  induction l with
  | nil => intro out; simp
  | cons s l ih =>
    intro out
    simp only [List.foldl_cons, List.length_cons]
    refine Nat.le_trans (ih _) ?_
    unfold keepMin
    split <;> simp <;> omega
theorem minOf_take (l : List Int) (k : Nat) (h : k < l.length) : minOf (l.take (k + 1)) = keepMin (minOf (l.take k)) l[k] := by
  unfold minOf
  rw [List.take_succ_eq_append_getElem h, List.foldl_append]; rfl

end Go.Proofs.Ytiplibgnfcdlkaa

/-
  Walks: math/bits.OnesCount, cmp.Compare[int], sets.Count, Compare.
-/
namespace Go.Proofs.Ytiplibgnfcdlkaa
open Go.RowKit

theorem isNaN_any (x : Int) (w : World) : Calls Try.prog 87 #[.int .i64 x] w fun e w' => e = .returned (.bool false) ∧ w = w' := by
  go_enter Try.func87, Try.ntmps87
  go_wp2
  go_ret
  exact ⟨by simp, rfl⟩
def cmpI (x y : Int) : Int := if x < y then -1 else if y < x then 1 else 0
theorem cmp_any (x y : Int) (w : World) : Calls Try.prog 61 #[.int .i64 x, .int .i64 y] w fun e w' => e = .returned (.int .i64 (cmpI x y)) ∧ w = w' := by
  unfold cmpI
  by_cases h1 : x < y
  · rw [if_pos h1]
    go_enter Try.func61, Try.ntmps61
    go_wp2_with (go_at_call 87; refine (isNaN_any _ _).mono ?_; rintro e w' ⟨rfl, rfl⟩)
    go_ret
    exact ⟨rfl, rfl⟩
  · rw [if_neg h1]
    by_cases h2 : y < x
    · rw [if_pos h2]
      go_enter Try.func61, Try.ntmps61
      go_wp2_with (go_at_call 87; refine (isNaN_any _ _).mono ?_; rintro e w' ⟨rfl, rfl⟩)
      go_ret
      exact ⟨rfl, rfl⟩
    · rw [if_neg h2]
      go_enter Try.func61, Try.ntmps61
      go_wp2_with (go_at_call 87; refine (isNaN_any _ _).mono ?_; rintro e w' ⟨rfl, rfl⟩)
      go_ret
      exact ⟨rfl, rfl⟩
theorem ones64_any (x : Int) (w : World) : Calls Try.prog 89 #[.int .u64 x] w fun e w' => e = .returned (.int .i64 (pcS x)) ∧ w = w' := by
  go_enter Try.func89, Try.ntmps89
  go_wp2
  go_ret
  exact ⟨rfl, rfl⟩
theorem ones_any (x : Int) (w : World) : Calls Try.prog 62 #[.int .u64 x] w fun e w' => e = .returned (.int .i64 (pcS x)) ∧ w = w' := by
  go_enter Try.func62, Try.ntmps62
  go_wp2_with (go_at_call 89; refine (ones64_any _ _).mono ?_; rintro e w' ⟨rfl, rfl⟩)
  go_ret
  exact ⟨rfl, rfl⟩
/-- A set of events: a mask. -/
def Mk (n : Nat) : Prop := n < 16777216
theorem cut_mk {n : Nat} (h : Mk n) : bits .and .i64 (n : Int) 16777215 = n := by
  unfold Mk at h
  rw [show (16777215 : Int) = ((16777215 : Nat) : Int) from rfl, and_i64 _ _ (by omega) (by decide), show (16777215 : Nat) = 2 ^ 24 - 1 from rfl, Nat.and_two_pow_sub_one_eq_mod]
  omega
theorem wrap_mk {n : Nat} (h : Mk n) : IntKind.u64.wrap (n : Int) = n := wrap_u64 n (by unfold Mk at h; omega)
/-- The order of sets: by size, then as numbers. -/
def cmpK (a b : Nat) : Int := if pc a < pc b then -1 else if pc b < pc a then 1 else if a < b then -1 else if b < a then 1 else 0
end Go.Proofs.Ytiplibgnfcdlkaa

/-
  Plain lists: the one strictly ascending list of a set; slices.Compact of a sorted list; the order of sets by size, then as numbers.
-/
namespace Go.Proofs.Ytiplibgnfcdlkaa
open Go.Lib Go.Sort Go.RowKit

theorem pair_unique {α : Type} (lt : α → α → Prop) (irr : ∀ a, ¬ lt a a) (tr : ∀ a b c, lt a b → lt b c → lt a c) :
    ∀ (l1 l2 : List α), l1.Pairwise lt → l2.Pairwise lt → (∀ x, x ∈ l1 ↔ x ∈ l2) → l1 = l2 := by
  intro l1
  induction l1 with
  | nil =>
    intro l2 _ _ h
    cases l2 with
    | nil => rfl
    | cons b l2 => exact absurd ((h b).2 (List.mem_cons_self ..)) (by simp)
  | cons a l1 ih =>
    intro l2 h1 h2 h
    cases l2 with
    | nil => exact absurd ((h a).1 (List.mem_cons_self ..)) (by simp)
    | cons b l2 =>
      rw [List.pairwise_cons] at h1 h2
      have hab : a = b := by
        rcases List.mem_cons.1 ((h a).1 (List.mem_cons_self ..)) with e | e
        · exact e
        · rcases List.mem_cons.1 ((h b).2 (List.mem_cons_self ..)) with e2 | e2
          · exact e2.symm
          · exact absurd (tr _ _ _ (h1.1 b e2) (h2.1 a e)) (irr a)
      subst hab
      congr 1
      refine ih l2 h1.2 h2.2 fun x => ⟨fun hx => ?_, fun hx => ?_⟩
      · rcases List.mem_cons.1 ((h x).1 (List.mem_cons_of_mem _ hx)) with e | e
        · subst e; exact absurd (h1.1 x hx) (irr x)
        · exact e
      · rcases List.mem_cons.1 ((h x).2 (List.mem_cons_of_mem _ hx)) with e | e
        · subst e; exact absurd (h2.1 x hx) (irr x)
        · exact e

theorem compact_sorted {α : Type} [Inhabited α] [DecidableEq α] (lt : α → α → Prop) (tr : ∀ a b c, lt a b → lt b c → lt a c) (d : Array α)
    (hs : ∀ i j, i < j → j < d.size → lt d[i]! d[j]! ∨ d[i]! = d[j]!) : ∀ m, m ≤ d.size → (compactUpTo d m).Pairwise lt ∧ ∀ x, x ∈ compactUpTo d m ↔ ∃ j, j < m ∧ d[j]! = x := by
  intro m
  induction m with
  | zero => intro _; simp [compactUpTo]
  | succ m ih =>
    intro hm
    obtain ⟨i1, i2⟩ := ih (by omega)
    rw [compactUpTo_succ]
    by_cases h0 : m = 0
    · subst h0
      simp [keeps, compactUpTo]
      exact fun x => eq_comm
    by_cases h : d[m]! = d[m - 1]!
    · rw [keeps_neg (by omega) h]
      simp only [Bool.false_eq_true, if_false, List.append_nil]
      refine ⟨i1, fun x => ?_⟩
      rw [i2]
      constructor
      · rintro ⟨j, hj, e⟩; exact ⟨j, by omega, e⟩
      · rintro ⟨j, hj, e⟩
        by_cases e2 : j = m
        · subst e2; exact ⟨j - 1, by omega, by rw [← e, h]⟩
        · exact ⟨j, by omega, e⟩
    · rw [keeps_pos h]
      simp only [if_true]
      refine ⟨?_, fun x => ?_⟩
      · rw [List.pairwise_append]
        refine ⟨i1, by simp, ?_⟩
        intro x hx y hy
        simp at hy
        subst hy
        obtain ⟨j, hj, e⟩ := (i2 x).1 hx
        subst e
        have hlast : lt d[m - 1]! d[m]! := (hs (m - 1) m (by omega) (by omega)).resolve_right (fun e => h e.symm)
        by_cases e3 : j = m - 1
        · subst e3; exact hlast
        · rcases hs j (m - 1) (by omega) (by omega) with e4 | e4
          · exact tr _ _ _ e4 hlast
          · rw [e4]; exact hlast
      · rw [List.mem_append, i2]
        simp only [List.mem_singleton]
        constructor
        · rintro (⟨j, hj, e⟩ | e)
          · exact ⟨j, by omega, e⟩
          · exact ⟨m, by omega, e.symm⟩
        · rintro ⟨j, hj, e⟩
          by_cases e2 : j = m
          · subst e2; exact .inr e.symm
          · exact .inl ⟨j, by omega, e⟩

/-- The order of sets. -/
def ltK (a b : Nat) : Prop := pc a < pc b ∨ pc a = pc b ∧ a < b
instance : DecidableRel ltK := fun a b => by unfold ltK; exact inferInstance
theorem ltK_irr (a : Nat) : ¬ ltK a a := by unfold ltK; omega
theorem ltK_tr (a b c : Nat) (h1 : ltK a b) (h2 : ltK b c) : ltK a c := by unfold ltK at *; omega
theorem ltK_total (a b : Nat) : ltK a b ∨ a = b ∨ ltK b a := by unfold ltK; omega
/-- x put into an ascending list, once. -/
def insK (x : Nat) : List Nat → List Nat
  | [] => [x]
  | y :: l => if ltK x y then x :: y :: l else if x = y then y :: l else y :: insK x l
/-- The sets of a list, sorted, each once. -/
def sortK : List Nat → List Nat
  | [] => []
  | x :: l => insK x (sortK l)
theorem mem_insK (x : Nat) (l : List Nat) (z : Nat) : z ∈ insK x l ↔ z = x ∨ z ∈ l := by
  induction l with
  | nil => simp [insK]
  | cons y l ih =>
    unfold insK
    split
    · simp
    · split
      · rename_i h; subst h; simp
      · simp [ih]; constructor <;> rintro (h | h | h) <;> simp [h]
theorem pair_insK (x : Nat) (l : List Nat) (h : l.Pairwise ltK) : (insK x l).Pairwise ltK := by
  induction l with
  | nil => simp [insK]
  | cons y l ih =>
    rw [List.pairwise_cons] at h
    unfold insK
    split
    · rename_i hx
      refine List.pairwise_cons.2 ⟨fun z hz => ?_, List.pairwise_cons.2 h⟩
      rcases List.mem_cons.1 hz with e | e
      · rw [e]; exact hx
      · exact ltK_tr _ _ _ hx (h.1 z e)
    · split
      · exact List.pairwise_cons.2 h
      · rename_i h1 h2
        refine List.pairwise_cons.2 ⟨fun z hz => ?_, ih h.2⟩
        rcases (mem_insK x l z).1 hz with e | e
        · rw [e]; rcases ltK_total x y with e2 | e2 | e2
          · exact absurd e2 h1
          · exact absurd e2 h2
          · exact e2
        · exact h.1 z e
theorem mem_sortK (l : List Nat) (z : Nat) : z ∈ sortK l ↔ z ∈ l := by
  induction l with
  | nil => simp [sortK]
  | cons x l ih => simp [sortK, mem_insK, ih]
theorem pair_sortK (l : List Nat) : (sortK l).Pairwise ltK := by
  induction l with
  | nil => simp [sortK]
  | cons x l ih => exact pair_insK x _ ih
theorem sortK_unique (l r : List Nat) (h : r.Pairwise ltK) (hm : ∀ x, x ∈ r ↔ x ∈ l) : r = sortK l :=
  pair_unique ltK ltK_irr ltK_tr r (sortK l) h (pair_sortK l) fun x => by rw [hm, mem_sortK]
theorem sortK_congr (l r : List Nat) (hm : ∀ x, x ∈ r ↔ x ∈ l) : sortK r = sortK l :=
  sortK_unique l (sortK r) (pair_sortK r) fun x => by rw [mem_sortK, hm]
theorem len_insK (x : Nat) (l : List Nat) : (insK x l).length ≤ l.length + 1 := by
  induction l with
  | nil => simp [insK]
  | cons y l ih =>
    unfold insK
    split
    · simp
    · split
      · simp
      · simp; omega
theorem len_sortK (l : List Nat) : (sortK l).length ≤ l.length := by
  induction l with
  | nil => simp [sortK]
  | cons x l ih => have := len_insK x (sortK l); simp [sortK]; omega
end Go.Proofs.Ytiplibgnfcdlkaa
