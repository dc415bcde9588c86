import Derived.Test.YtngbjdaaogbjmaaGreatK4
/-
  Plain: the reference's rows of the top-down search: nodes as ascending lists; parts, minimal rows, choices.
-/
namespace Go.Proofs.YtngbjdaaogbjmaaGreat

/-- The nodes of a row, ascending. -/
def nodesOf (r : Nat) : List Nat := (List.range 128).filter fun j => r.testBit (24 + j)
theorem mem_nodesOf {r j : Nat} : j ∈ nodesOf r ↔ j < 128 ∧ r.testBit (24 + j) = true := by simp [nodesOf]
theorem nodesOf_sorted (r : Nat) : (nodesOf r).Pairwise (· < ·) := List.Pairwise.filter _ List.pairwise_lt_range
theorem nodesOf_len (r : Nat) : (nodesOf r).length ≤ 128 := by
  unfold nodesOf
  exact Nat.le_trans (List.length_filter_le ..) (by simp)
theorem lt_unique {l r : List Nat} (hl : l.Pairwise (· < ·)) (hr : r.Pairwise (· < ·)) (h : ∀ x, x ∈ l ↔ x ∈ r) : l = r :=
  pair_unique (· < ·) (fun a h => Nat.lt_irrefl a h) (fun _ _ _ h k => Nat.lt_trans h k) l r hl hr h
theorem nodesOf_ev (r a : Nat) (h : a < 24) : nodesOf (r ||| 2 ^ a) = nodesOf r := by
  refine lt_unique (nodesOf_sorted _) (nodesOf_sorted _) fun j => ?_
  rw [mem_nodesOf, mem_nodesOf, bit_or_pow]
  have : ¬ a = 24 + j := by omega
  simp [this]
theorem nodesOf_node (r n : Nat) (h : n < 128) : nodesOf (r ||| 2 ^ (24 + n)) = (nodesOf r).filter (fun x => decide (x < n)) ++ n :: (nodesOf r).filter (fun x => decide (n < x)) := by
  refine lt_unique (nodesOf_sorted _) ?_ fun j => ?_
  · rw [List.pairwise_append]
    refine ⟨(nodesOf_sorted r).filter _, ?_, fun a ha b hb => ?_⟩
    · rw [List.pairwise_cons]
      refine ⟨fun b hb => ?_, (nodesOf_sorted r).filter _⟩
      simpa using (List.mem_filter.1 hb).2
    · have h1 : a < n := by simpa using (List.mem_filter.1 ha).2
      rcases List.mem_cons.1 hb with hb | hb
      · omega
      · have h2 : n < b := by simpa using (List.mem_filter.1 hb).2
        omega
  · rw [mem_nodesOf, bit_or_pow, List.mem_append, List.mem_cons, List.mem_filter, List.mem_filter, mem_nodesOf]
    simp only [Bool.or_eq_true, decide_eq_true_eq]
    constructor
    · rintro ⟨h1, h2 | h2⟩
      · by_cases e : j < n
        · exact .inl ⟨⟨h1, h2⟩, e⟩
        · by_cases e2 : j = n
          · exact .inr (.inl e2)
          · exact .inr (.inr ⟨⟨h1, h2⟩, by omega⟩)
      · exact .inr (.inl (by omega))
    · rintro (⟨⟨h1, h2⟩, _⟩ | h1 | ⟨⟨h1, h2⟩, _⟩)
      · exact ⟨h1, .inl h2⟩
      · subst h1; exact ⟨h, .inr rfl⟩
      · exact ⟨h1, .inl h2⟩
/-- The row without its greatest node. -/
theorem nodesOf_drop (r n : Nat) (hn : n < 128) (hb : r.testBit (24 + n) = true) (hmax : ∀ j, r.testBit (24 + j) = true → j ≤ n) : nodesOf r = nodesOf (sdiff r (2 ^ (24 + n))) ++ [n] := by
  refine lt_unique (nodesOf_sorted _) ?_ fun j => ?_
  · rw [List.pairwise_append]
    refine ⟨nodesOf_sorted _, by simp, fun a ha b hb2 => ?_⟩
    simp at hb2
    subst hb2
    have h := mem_nodesOf.1 ha
    rw [bit_sd_pow] at h
    simp only [Bool.and_eq_true, Bool.not_eq_true', decide_eq_false_iff_not] at h
    have := hmax a h.2.1
    omega
  · rw [List.mem_append, mem_nodesOf, mem_nodesOf, bit_sd_pow]
    simp only [Bool.and_eq_true, Bool.not_eq_true', decide_eq_false_iff_not, List.mem_singleton]
    constructor
    · rintro ⟨h1, h2⟩
      by_cases e : j = n
      · exact .inr e
      · exact .inl ⟨h1, h2, by omega⟩
    · rintro (⟨h1, h2, _⟩ | h1)
      · exact ⟨h1, h2⟩
      · subst h1; exact ⟨hn, hb⟩
theorem evW_sd (r n : Nat) : evW (sdiff r (2 ^ (24 + n))) = evW r := Nat.eq_of_testBit_eq fun i => by
  rw [evW_bit, evW_bit, bit_sd_pow]
  by_cases h : i < 24
  · have : ¬ 24 + n = i := by omega
    simp [this]
  · simp [h]
theorem topIs_nil {r : Nat} (hr : RowLt 152 r) (h : nodesOf r = []) : TopIs r (-1) := ⟨fun j hj => (by
  have : j ∈ nodesOf r := mem_nodesOf.2 ⟨by have := hr _ hj; omega, hj⟩
  rw [h] at this; cases this), .inl rfl⟩
theorem topIs_last {r x : Nat} {l : List Nat} (hr : RowLt 152 r) (h : nodesOf r = l ++ [x]) : TopIs r (x : Int) := by
  refine ⟨fun j hj => ?_, .inr ⟨x, rfl, ?_⟩⟩
  · have hm : j ∈ nodesOf r := mem_nodesOf.2 ⟨by have := hr _ hj; omega, hj⟩
    have hs := nodesOf_sorted r
    rw [h] at hm hs
    rcases List.mem_append.1 hm with hm | hm
    · have := (List.pairwise_append.1 hs).2.2 j hm x (by simp)
      omega
    · simp at hm; omega
  · exact (mem_nodesOf.1 (show x ∈ nodesOf r by rw [h]; simp)).2
theorem evW_or (r n : Nat) : evW (r ||| 2 ^ (24 + n)) = evW r := Nat.eq_of_testBit_eq fun i => by
  rw [evW_bit, evW_bit, bit_or_pow]
  by_cases h : i < 24
  · have : ¬ 24 + n = i := by omega
    simp [this]
  · simp [h]

/-- How many of the first list's elements, in their order, a walk over the second one finds. -/
def stepN (la : List Nat) (k x : Nat) : Nat := if la[k]? = some x then k + 1 else k
def scanN (la lb : List Nat) (k : Nat) : Nat := lb.foldl (stepN la) k
theorem scanN_drop : ∀ (lb la : List Nat) (k : Nat), scanN la lb k = k + scanN (la.drop k) lb 0 := by
  intro lb
  induction lb with
  | nil => intro la k; simp [scanN]
  | cons x lb ih =>
    intro la k
    show scanN la lb (stepN la k x) = k + scanN (la.drop k) lb (stepN (la.drop k) 0 x)
    have e : (la.drop k)[0]? = la[k]? := by rw [List.getElem?_drop]; simp
    unfold stepN
    rw [e]
    by_cases h : la[k]? = some x
    · rw [if_pos h, if_pos h, ih la (k + 1), ih (la.drop k) (0 + 1), List.drop_drop]
      rw [show k + (0 + 1) = k + 1 by omega]; omega
    · rw [if_neg h, if_neg h, ih la k]
theorem scanN_nil (lb : List Nat) : scanN [] lb 0 = 0 := by
  induction lb with
  | nil => rfl
  | cons x lb ih => show scanN [] lb (stepN [] 0 x) = 0; rw [show stepN [] 0 x = 0 from rfl]; exact ih
theorem scanN_iff : ∀ (lb la : List Nat), la.Pairwise (· < ·) → lb.Pairwise (· < ·) → (scanN la lb 0 = la.length ↔ ∀ x ∈ la, x ∈ lb) := by
  intro lb
  induction lb with
  | nil =>
    intro la _ _
    cases la with
    | nil => simp [scanN]
    | cons a la =>
      constructor
      · intro h; simp [scanN] at h
      · intro h; have := h a (by simp); cases this
  | cons b lb ih =>
    intro la hla hlb
    have hlb2 := (List.pairwise_cons.1 hlb)
    cases la with
    | nil => simp [scanN_nil]
    | cons a la =>
      have hla2 := (List.pairwise_cons.1 hla)
      show scanN (a :: la) lb (stepN (a :: la) 0 b) = _ ↔ _
      by_cases h : a = b
      · subst h
        rw [show stepN (a :: la) 0 a = 1 by simp [stepN], scanN_drop, show (a :: la).drop 1 = la from rfl, List.length_cons]
        have := ih la hla2.2 hlb2.2
        constructor
        · intro e x hx
          rcases List.mem_cons.1 hx with hx | hx
          · subst hx; simp
          · exact List.mem_cons_of_mem _ (this.1 (by omega) x hx)
        · intro e
          have h2 := this.2 fun x hx => by
            rcases List.mem_cons.1 (e x (List.mem_cons_of_mem _ hx)) with h3 | h3
            · have := hla2.1 x hx; omega
            · exact h3
          omega
      · rw [show stepN (a :: la) 0 b = 0 by simp [stepN, h], ih (a :: la) hla hlb2.2]
        constructor
        · intro e x hx; exact List.mem_cons_of_mem _ (e x hx)
        · intro e
          have ha : a ∈ lb := (List.mem_cons.1 (e a (by simp))).resolve_left h
          have hba := hlb2.1 a ha
          intro x hx
          rcases List.mem_cons.1 (e x hx) with h3 | h3
          · rcases List.mem_cons.1 hx with h4 | h4
            · omega
            · have := hla2.1 x h4; omega
          · exact h3
theorem part_iff {a : Nat} (b : Nat) (ha : RowLt 152 a) : subN a b = (subN (evW a) (evW b) && decide (scanN (nodesOf a) (nodesOf b) 0 = (nodesOf a).length)) := by
  rw [Bool.eq_iff_iff, Bool.and_eq_true, decide_eq_true_eq, scanN_iff _ _ (nodesOf_sorted a) (nodesOf_sorted b), subN_iff, subN_iff]
  constructor
  · intro h
    refine ⟨fun i hi => ?_, fun x hx => ?_⟩
    · rw [evW_bit] at hi ⊢
      simp only [Bool.and_eq_true, decide_eq_true_eq] at hi ⊢
      exact ⟨hi.1, h i hi.2⟩
    · rw [mem_nodesOf] at hx ⊢
      exact ⟨hx.1, h _ hx.2⟩
  · rintro ⟨h1, h2⟩ i hi
    by_cases c : i < 24
    · have := h1 i (by rw [evW_bit]; simp [c, hi])
      rw [evW_bit] at this
      simp only [Bool.and_eq_true, decide_eq_true_eq] at this
      exact this.2
    · have hlt := ha i hi
      have := (mem_nodesOf.1 (h2 (i - 24) (mem_nodesOf.2 ⟨by omega, by rw [show 24 + (i - 24) = i by omega]; exact hi⟩))).2
      rw [show 24 + (i - 24) = i by omega] at this
      exact this

/-- The rows that the reference keeps. -/
def outAt (L : List Nat) (i j : Nat) : Bool := decide (i ≠ j) && (subN (L.getD j 0) (L.getD i 0) && (!subN (L.getD i 0) (L.getD j 0) || decide (j < i)))
def keptAt (L : List Nat) (i : Nat) : Bool := (List.range L.length).all fun j => !outAt L i j
def refMinTo (L : List Nat) (m : Nat) : List Nat := ((List.range m).filter (keptAt L)).map fun i => L.getD i 0
def refMin (L : List Nat) : List Nat := refMinTo L L.length
theorem refMinTo_succ (L : List Nat) (m : Nat) : refMinTo L (m + 1) = refMinTo L m ++ (if keptAt L m = true then [L.getD m 0] else []) := by
  unfold refMinTo
  rw [List.range_succ, List.filter_append, List.map_append]
  cases h : keptAt L m <;> simp [h]
theorem refMinTo_len (L : List Nat) (m : Nat) : (refMinTo L m).length ≤ m := by
  unfold refMinTo
  rw [List.length_map]
  exact Nat.le_trans (List.length_filter_le ..) (by simp)
theorem first_idx {x : Nat} : ∀ {L : List Nat}, x ∈ L → ∃ i, i < L.length ∧ L.getD i 0 = x ∧ ∀ j, j < i → L.getD j 0 ≠ x := by
  intro L
  induction L with
  | nil => intro h; cases h
  | cons a L ih =>
    intro h
    by_cases e : a = x
    · exact ⟨0, by simp, by simp [e], fun j hj => by omega⟩
    · obtain ⟨i, h1, h2, h3⟩ := ih ((List.mem_cons.1 h).resolve_left fun h => e h.symm)
      refine ⟨i + 1, by simpa using h1, by simpa using h2, fun j hj => ?_⟩
      cases j with
      | zero => simpa using e
      | succ j => simpa using h3 j (by omega)
theorem getD_mem {L : List Nat} {i : Nat} (h : i < L.length) : L.getD i 0 ∈ L := by
  rw [List.getD_eq_getElem?_getD, List.getElem?_eq_getElem h]
  exact List.getElem_mem h
theorem mem_getD {L : List Nat} {x : Nat} (h : x ∈ L) : ∃ i, i < L.length ∧ L.getD i 0 = x := let ⟨i, h1, h2, _⟩ := first_idx h; ⟨i, h1, h2⟩
theorem keptAt_iff (L : List Nat) (i : Nat) : keptAt L i = true ↔ ∀ j, j < L.length → i ≠ j → subN (L.getD j 0) (L.getD i 0) = true → subN (L.getD i 0) (L.getD j 0) = true ∧ i ≤ j := by
  unfold keptAt outAt
  rw [List.all_eq_true]
  simp only [List.mem_range, Bool.not_eq_true', Bool.and_eq_false_iff, Bool.or_eq_false_iff, decide_eq_false_iff_not, Decidable.not_not, Bool.not_eq_false']
  constructor
  · intro h j hj hne hs
    rcases h j hj with h1 | h1 | h1
    · exact absurd h1 hne
    · rw [hs] at h1; cases h1
    · exact ⟨h1.1, by omega⟩
  · intro h j hj
    by_cases hne : i = j
    · exact .inl hne
    · cases hs : subN (L.getD j 0) (L.getD i 0) with
      | false => exact .inr (.inl rfl)
      | true =>
        have := h j hj hne hs
        exact .inr (.inr ⟨this.1, by omega⟩)
theorem refMin_perm (L : List Nat) : (refMin L).Perm (minK L) := by
  refine perm_of_mem ?_ (ltK_nodup (pair_minK L)) fun x => ?_
  · unfold refMin refMinTo List.Nodup
    rw [List.pairwise_map]
    refine List.Pairwise.imp_of_mem (R := (· < ·)) (fun {a b} ha hb hab => ?_) (List.Pairwise.filter _ List.pairwise_lt_range)
    intro e
    have ha2 := List.mem_filter.1 ha
    have hb2 := List.mem_filter.1 hb
    have hal : a < L.length := by simpa using ha2.1
    have := ((keptAt_iff L b).1 hb2.2 a hal (by omega) (by rw [e]; exact subN_refl _)).2
    omega
  · rw [mem_minK_iff]
    unfold refMin refMinTo
    rw [List.mem_map]
    constructor
    · rintro ⟨i, hi, rfl⟩
      have hi2 := List.mem_filter.1 hi
      have hil : i < L.length := by simpa using hi2.1
      refine ⟨getD_mem hil, fun t ht hs => ?_⟩
      obtain ⟨j, hj, rfl⟩ := mem_getD ht
      by_cases e : i = j
      · rw [e]
      · exact subN_anti hs ((keptAt_iff L i).1 hi2.2 j hj e hs).1
    · rintro ⟨hx, hmin⟩
      obtain ⟨i, h1, h2, h3⟩ := first_idx hx
      refine ⟨i, List.mem_filter.2 ⟨by simpa using h1, (keptAt_iff L i).2 fun j hj hne hs => ?_⟩, h2⟩
      have e := hmin _ (getD_mem hj) (by rw [← h2]; exact hs)
      refine ⟨by rw [h2, e]; exact subN_refl x, ?_⟩
      apply Nat.le_of_not_lt
      intro hlt
      exact h3 j hlt e

/-- The rows that the reference's choices makes, with so much room. -/
def refCh (V : Nat) : List Int → Nat → Nat → Int → List Nat
  | [], k, r, _ => if k = 0 then [r] else []
  | a :: l, k, r, room => if k = 0 then [r] else if l.length + 1 < k ∨ room < 0 then [] else
      refCh V l (k - 1) (withC V r a) room ++ refCh V l k r (room - (refCh V l (k - 1) (withC V r a) room).length)
theorem refCh_zero (V : Nat) (args : List Int) (r : Nat) (room : Int) : refCh V args 0 r room = [r] := by
  cases args <;> unfold refCh <;> rw [if_pos rfl]
theorem refCh_len (V : Nat) : ∀ (args : List Int) (k r : Nat) (room : Int), k ≠ 0 → ((refCh V args k r room).length : Int) ≤ max (room + 1) 0 := by
  intro args
  induction args with
  | nil => intro k r room h; unfold refCh; rw [if_neg h]; simp; omega
  | cons a l ih =>
    intro k r room h
    unfold refCh
    rw [if_neg h]
    split
    · simp; omega
    · rename_i h2
      rw [List.length_append]
      have h3 := ih k r (room - (refCh V l (k - 1) (withC V r a) room).length) h
      have h4 : ((refCh V l (k - 1) (withC V r a) room).length : Int) ≤ room + 1 := by
        by_cases e : k - 1 = 0
        · rw [e, refCh_zero]; simp; omega
        · have := ih (k - 1) (withC V r a) room e
          omega
      omega
theorem chooseK_zero (V : Nat) (args : List Int) (r : Nat) : chooseK V args 0 r = [r] := by
  cases args <;> unfold chooseK <;> rw [if_pos rfl]
theorem refCh_spec (V : Nat) : ∀ (args : List Int) (k r : Nat) (room : Int), 0 ≤ room →
    (((chooseK V args k r).length : Int) ≤ room → refCh V args k r room = chooseK V args k r) ∧ (room < (chooseK V args k r).length → room < (refCh V args k r room).length) := by
  intro args
  induction args with
  | nil => intro k r room _; unfold refCh chooseK; exact ⟨fun _ => rfl, fun h => h⟩
  | cons a l ih =>
    intro k r room hr
    by_cases hk : k = 0
    · subst hk
      rw [refCh_zero, chooseK_zero]
      exact ⟨fun _ => rfl, fun h => h⟩
    · by_cases hm : l.length + 1 < k
      · rw [chooseK_many V (a :: l) k r (by simpa using hm)]
        unfold refCh
        rw [if_neg hk, if_pos (.inl hm)]
        exact ⟨fun _ => rfl, fun h => h⟩
      · have e1 : refCh V (a :: l) k r room = refCh V l (k - 1) (withC V r a) room ++ refCh V l k r (room - (refCh V l (k - 1) (withC V r a) room).length) := by
          conv => lhs; unfold refCh
          rw [if_neg hk, if_neg (by omega)]
        have e2 : chooseK V (a :: l) k r = chooseK V l (k - 1) (withC V r a) ++ chooseK V l k r := by
          conv => lhs; unfold chooseK
          rw [if_neg hk]
        rw [e1, e2, List.length_append, List.length_append]
        obtain ⟨i1, i2⟩ := ih (k - 1) (withC V r a) room hr
        by_cases h1 : ((chooseK V l (k - 1) (withC V r a)).length : Int) ≤ room
        · rw [i1 h1]
          obtain ⟨j1, j2⟩ := ih k r (room - (chooseK V l (k - 1) (withC V r a)).length) (by omega)
          exact ⟨fun h => by rw [j1 (by omega)], fun h => by have := j2 (by omega); omega⟩
        · have := i2 (by omega)
          exact ⟨fun h => by omega, fun h => by omega⟩
theorem chooseK_all (V : Nat) : ∀ (args : List Int) (r : Nat), chooseK V args args.length r = [args.foldl (withC V) r] := by
  intro args
  induction args with
  | nil => intro r; rfl
  | cons a l ih =>
    intro r
    unfold chooseK
    rw [if_neg (by simp), List.length_cons, Nat.add_sub_cancel, ih, chooseK_many V l (l.length + 1) r (by omega)]; rfl
theorem chooseK_one (V : Nat) : ∀ (args : List Int) (r : Nat), chooseK V args 1 r = args.map (withC V r) := by
  intro args
  induction args with
  | nil => intro r; rfl
  | cons a l ih =>
    intro r
    unfold chooseK
    rw [if_neg (by omega), show 1 - 1 = 0 by omega, chooseK_zero, ih]; rfl
theorem expK_len_take (V : Nat) (x : Nd) (i : Nat) (L : List Nat) (k : Nat) : (expK V x i (L.take k)).length ≤ (expK V x i L).length := by
  have : expK V x i L = expK V x i (L.take k) ++ expK V x i (L.drop k) := by
    unfold expK
    rw [← List.flatMap_append, List.take_append_drop]
  rw [this, List.length_append]; omega
end Go.Proofs.YtngbjdaaogbjmaaGreat
