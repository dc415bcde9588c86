import Derived.Test.YtiplibgnfcdlkaaQZI3
/-
  Plain: the diagram of at most 400 sets has at most 4096 nodes: the sum.
-/
namespace Go.Proofs.Ytiplibgnfcdlkaa

/-- A node of one set: the family is that set. -/
theorem ZPick.only {N : List ZNode} {F : Nat → Bool} {p f g : Nat → Nat} (h : ZPick N F p f g) {v i : Nat} (hi : i ∈ zone N F f v) {t u : Nat} (ht : zm N (i + 2) t = true) (hu : zm N (i + 2) u = true) : t = u := by
  obtain ⟨h1, h2⟩ := zone_mem.1 hi
  obtain ⟨hl, hv⟩ := zlvl_mem.1 h1
  have a := (h.pf i hl).back t ht
  have b := (h.pf i hl).back u hu
  have c := (h.f1 i hl).2
  rw [hv] at a b c
  have e1 := h2 _ a.2 (by rw [a.1, c])
  have e2 := h2 _ b.2 (by rw [b.1, c])
  have e : t ^^^ p i = u ^^^ p i := by rw [e1, e2]
  have e3 : (t ^^^ p i) ^^^ p i = (u ^^^ p i) ^^^ p i := by rw [e]
  rw [Nat.xor_assoc, Nat.xor_self, Nat.xor_zero, Nat.xor_assoc, Nat.xor_self, Nat.xor_zero] at e3
  exact e3
theorem ZPick.lone {N : List ZNode} {F : Nat → Bool} {p f g : Nat → Nat} (h : ZPick N F p f g) {v : Nat} (hv : v < 24) : (zone N F f v).length ≤ 2 ^ (23 - v) := by
  have hg := h.good
  have ht : ∃ t : Nat → Nat, ∀ i, i < N.length → zm N (i + 2) (t i) = true ∧ (t i).testBit (zev N (i + 2)) = true := by
    have : ∀ i, ∃ t, i < N.length → zm N (i + 2) t = true ∧ t.testBit (zev N (i + 2)) = true := fun i => by
      by_cases hi : i < N.length
      · obtain ⟨t, ht⟩ := zm_top hg hi
        rw [← zev_node hi] at ht
        exact ⟨t, fun _ => ht⟩
      · exact ⟨0, fun h => absurd h hi⟩
    exact ⟨fun i => Classical.choose (this i), fun i => Classical.choose_spec (this i)⟩
  obtain ⟨t, ht⟩ := ht
  refine len_below (f := fun i => t i >>> (v + 1)) (List.Pairwise.filter _ (zlvl_nodup N v)) (fun x hx y hy e => ?_) fun x hx => ?_
  · obtain ⟨x1, x2⟩ := zlvl_mem.1 (zone_mem.1 hx).1
    obtain ⟨y1, y2⟩ := zlvl_mem.1 (zone_mem.1 hy).1
    obtain ⟨a1, a2⟩ := ht x x1
    obtain ⟨b1, b2⟩ := ht y y1
    have e1 : t x = t y := Nat.eq_of_testBit_eq fun j => by
      rcases Nat.lt_trichotomy j v with hj | hj | hj
      · have c1 : (t x).testBit j = false := by
          cases e : (t x).testBit j with
          | false => rfl
          | true => have := (zm_low hg _ (by omega) _ a1 j e).1; omega
        have c2 : (t y).testBit j = false := by
          cases e : (t y).testBit j with
          | false => rfl
          | true => have := (zm_low hg _ (by omega) _ b1 j e).1; omega
        rw [c1, c2]
      · subst hj
        rw [x2] at a2
        rw [y2] at b2
        rw [a2, b2]
      · have := congrArg (fun z => Nat.testBit z (j - (v + 1))) e
        simp only [Nat.testBit_shiftRight] at this
        rw [show v + 1 + (j - (v + 1)) = j by omega] at this
        exact this
    have := zm_inj hg (x + 2) (by omega) (y + 2) (by omega) fun s => by
      cases c1 : zm N (x + 2) s with
      | true => rw [h.only hx c1 a1, e1, b1]
      | false =>
        cases c2 : zm N (y + 2) s with
        | false => rfl
        | true => rw [h.only hy c2 b1, ← e1, a1] at c1; cases c1
    omega
  · obtain ⟨x1, x2⟩ := zlvl_mem.1 (zone_mem.1 hx).1
    have h1 : t x < 16777216 := zbits_lt fun j hj => (zm_low hg _ (by omega) _ (ht x x1).1 j hj).2
    show t x >>> (v + 1) < 2 ^ (23 - v)
    rw [Nat.shiftRight_eq_div_pow, Nat.div_lt_iff_lt_mul (Nat.two_pow_pos _), ← Nat.pow_add, show 23 - v + (v + 1) = 24 by omega]
    exact h1
def zupl (N : List ZNode) (v : Nat) : List Nat := (List.range N.length).filter (fun i => decide (zev N (i + 2) < v))
theorem zupl_zero (N : List ZNode) : (zupl N 0).length = 0 := by
  unfold zupl
  rw [List.length_eq_zero_iff, List.filter_eq_nil_iff]
  intro a _
  simp
theorem filter_add {α : Type} (p q r : α → Bool) : ∀ l : List α, (∀ x ∈ l, p x = (q x || r x)) → (l.filter p).length ≤ (l.filter q).length + (l.filter r).length := by
  intro l
  induction l with
  | nil => intro _; exact Nat.zero_le _
  | cons a l ih =>
    intro h
    have := ih fun x hx => h x (List.mem_cons_of_mem _ hx)
    have ha := h a List.mem_cons_self
    rw [List.filter_cons, List.filter_cons, List.filter_cons, ha]
    cases q a <;> cases r a <;> simp <;> omega
theorem zupl_step (N : List ZNode) (v : Nat) : (zupl N (v + 1)).length ≤ (zupl N v).length + (zlvl N v).length :=
  filter_add _ _ _ _ fun i _ => by
    rw [Bool.eq_iff_iff, Bool.or_eq_true, decide_eq_true_iff, decide_eq_true_iff, beq_iff_eq]
    omega
theorem zupl_all {N : List ZNode} (hg : ZGood N) : (zupl N 24).length = N.length := by
  unfold zupl
  rw [List.filter_eq_self.2, List.length_range]
  intro i hi
  have h := List.mem_range.1 hi
  rw [zev_node h, decide_eq_true_iff]
  exact hg.ev i h
theorem zcan_len400 {F : Nat → Bool} (hF : ZFrom 0 F) (hc : zcard F ≤ 400) : (zcan F).1.length ≤ 4096 := by
  have hp := zcan_put hF
  have hpre : ∀ i, i < (zcan F).1.length → ZPre (zcan F).1 F 0 i := fun i hi => by
    rw [zcan_eq] at hi ⊢
    exact zadd_pre 24 (Nat.le_refl _) [] F zgood_nil hF i (Nat.zero_le _) hi
  obtain ⟨p, f, g, h⟩ := zpick hp.good hpre
  have ha := zupl_all hp.good
  have h0 := zupl_zero (zcan F).1
  have hs := zupl_step (zcan F).1
  have hA := zalone_pairs F
  have hlow : ∀ v, v ≤ 8 → (zlvl (zcan F).1 v).length ≤ 2 ^ v := fun v _ => h.few v
  have hmid : ∀ v, v ≤ 15 → 2 * (zlvl (zcan F).1 v).length ≤ 400 + (zalone F).length := fun v hv => by
    have a := h.mid hF v
    have b := h.low hF hv
    have c := zone_many (zcan F).1 F f v
    omega
  have hhi : ∀ v, 15 ≤ v → v < 24 → 2 * (zlvl (zcan F).1 v).length ≤ 2 * 2 ^ (23 - v) + (zpairs F).length := fun v hv hv2 => by
    have a := h.high hF hv
    have b := h.lone (v := v) hv2
    have c := zone_many (zcan F).1 F f v
    omega
  clear h hpre
  generalize (zcan F).1 = N at *
  have l0 := hlow 0 (by omega); have l1 := hlow 1 (by omega); have l2 := hlow 2 (by omega); have l3 := hlow 3 (by omega); have l4 := hlow 4 (by omega)
  have l5 := hlow 5 (by omega); have l6 := hlow 6 (by omega); have l7 := hlow 7 (by omega); have l8 := hlow 8 (by omega)
  have m9 := hmid 9 (by omega); have m10 := hmid 10 (by omega); have m11 := hmid 11 (by omega); have m12 := hmid 12 (by omega); have m13 := hmid 13 (by omega); have m14 := hmid 14 (by omega)
  have t15 := hhi 15 (by omega) (by omega); have t16 := hhi 16 (by omega) (by omega); have t17 := hhi 17 (by omega) (by omega); have t18 := hhi 18 (by omega) (by omega); have t19 := hhi 19 (by omega) (by omega)
  have t20 := hhi 20 (by omega) (by omega); have t21 := hhi 21 (by omega) (by omega); have t22 := hhi 22 (by omega) (by omega); have t23 := hhi 23 (by omega) (by omega)
  have s0 := hs 0; have s1 := hs 1; have s2 := hs 2; have s3 := hs 3; have s4 := hs 4; have s5 := hs 5; have s6 := hs 6; have s7 := hs 7; have s8 := hs 8; have s9 := hs 9; have s10 := hs 10; have s11 := hs 11
  have s12 := hs 12; have s13 := hs 13; have s14 := hs 14; have s15 := hs 15; have s16 := hs 16; have s17 := hs 17; have s18 := hs 18; have s19 := hs 19; have s20 := hs 20; have s21 := hs 21; have s22 := hs 22; have s23 := hs 23
  clear hlow hmid hhi hs
  simp only [Nat.reduceAdd, Nat.reduceSub, Nat.reducePow, Nat.reduceMul] at *
  omega
end Go.Proofs.Ytiplibgnfcdlkaa
