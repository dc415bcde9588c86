import Derived.Test.YtiplibgnfcdlkaaQZI2
/-
  Plain: the diagram of at most 400 sets has at most 4096 nodes: the levels.
-/
namespace Go.Proofs.Ytiplibgnfcdlkaa

/-- A set is alone in its class. -/
def ZAl (F : Nat → Bool) (m s : Nat) : Prop := ∀ s', F s' = true → s' % m = s % m → s' = s
noncomputable def zal (F : Nat → Bool) (m s : Nat) : Bool := @decide (ZAl F m s) (Classical.propDecidable _)
theorem zal_iff {F : Nat → Bool} {m s : Nat} : zal F m s = true ↔ ZAl F m s := by unfold zal; exact @decide_eq_true_iff _ (Classical.propDecidable _)
theorem ZAl.finer {F : Nat → Bool} {m n s : Nat} (h : ZAl F m s) (hd : m ∣ n) : ZAl F n s := fun s' hs he => h s' hs (by
  rw [← Nat.mod_mod_of_dvd s' hd, ← Nat.mod_mod_of_dvd s hd, he])
def zlvl (N : List ZNode) (v : Nat) : List Nat := (List.range N.length).filter (fun i => zev N (i + 2) == v)
theorem zlvl_mem {N : List ZNode} {v i : Nat} : i ∈ zlvl N v ↔ i < N.length ∧ zev N (i + 2) = v := by
  unfold zlvl
  rw [List.mem_filter, List.mem_range, beq_iff_eq]
theorem zlvl_nodup (N : List ZNode) (v : Nat) : (zlvl N v).Nodup := List.Pairwise.filter _ List.nodup_range
/-- The prefixes, the sets. -/
structure ZPick (N : List ZNode) (F : Nat → Bool) (p f g : Nat → Nat) : Prop where
  good : ZGood N
  pf : ∀ i, i < N.length → ZPf N F i (p i)
  f1 : ∀ i, i < N.length → F (f i) = true ∧ f i % 2 ^ zev N (i + 2) = p i
  g1 : ∀ i, i < N.length → ¬ ZAl F (2 ^ zev N (i + 2)) (f i) → F (g i) = true ∧ g i % 2 ^ zev N (i + 2) = p i ∧ g i ≠ f i
theorem zpick {N : List ZNode} {F : Nat → Bool} (hg : ZGood N) (h : ∀ i, i < N.length → ZPre N F 0 i) : ∃ p f g, ZPick N F p f g := by
  have hp : ∃ p : Nat → Nat, ∀ i, i < N.length → ZPf N F i (p i) := by
    have : ∀ i, ∃ p, i < N.length → ZPf N F i p := fun i => by
      by_cases hi : i < N.length
      · obtain ⟨p, hp⟩ := zpf_of hg hi (h i hi); exact ⟨p, fun _ => hp⟩
      · exact ⟨0, fun h => absurd h hi⟩
    exact ⟨fun i => Classical.choose (this i), fun i => Classical.choose_spec (this i)⟩
  obtain ⟨p, hp⟩ := hp
  have hf : ∃ f : Nat → Nat, ∀ i, i < N.length → F (f i) = true ∧ f i % 2 ^ zev N (i + 2) = p i := by
    have : ∀ i, ∃ f, i < N.length → F f = true ∧ f % 2 ^ zev N (i + 2) = p i := fun i => by
      by_cases hi : i < N.length
      · obtain ⟨t, ht⟩ := zm_some hg (i + 2) (by omega) (by omega)
        obtain ⟨a, b⟩ := (hp i hi).back t ht
        exact ⟨_, fun _ => ⟨b, a⟩⟩
      · exact ⟨0, fun h => absurd h hi⟩
    exact ⟨fun i => Classical.choose (this i), fun i => Classical.choose_spec (this i)⟩
  obtain ⟨f, hf⟩ := hf
  have hgx : ∃ g : Nat → Nat, ∀ i, i < N.length → ¬ ZAl F (2 ^ zev N (i + 2)) (f i) → F (g i) = true ∧ g i % 2 ^ zev N (i + 2) = p i ∧ g i ≠ f i := by
    have : ∀ i, ∃ g, i < N.length → ¬ ZAl F (2 ^ zev N (i + 2)) (f i) → F g = true ∧ g % 2 ^ zev N (i + 2) = p i ∧ g ≠ f i := fun i => by
      by_cases hi : i < N.length
      · by_cases ha : ZAl F (2 ^ zev N (i + 2)) (f i)
        · exact ⟨0, fun _ h => absurd ha h⟩
        · unfold ZAl at ha
          have ⟨s, hs⟩ := Classical.not_forall.1 ha
          have ⟨h1, hs2⟩ := Classical.not_imp.1 hs
          have ⟨h2, h3⟩ := Classical.not_imp.1 hs2
          exact ⟨s, fun _ _ => ⟨h1, by rw [h2]; exact (hf i hi).2, h3⟩⟩
      · exact ⟨0, fun h => absurd h hi⟩
    exact ⟨fun i => Classical.choose (this i), fun i => Classical.choose_spec (this i)⟩
  obtain ⟨g, hgx⟩ := hgx
  exact ⟨p, f, g, hg, hp, hf, hgx⟩
section
variable {N : List ZNode} {F : Nat → Bool} {p f g : Nat → Nat}
theorem ZPick.inj (h : ZPick N F p f g) {v i j : Nat} (hi : i ∈ zlvl N v) (hj : j ∈ zlvl N v) (e : p i = p j) : i = j := by
  obtain ⟨hi1, hi2⟩ := zlvl_mem.1 hi
  obtain ⟨hj1, hj2⟩ := zlvl_mem.1 hj
  have k := h.pf j hj1
  rw [← e] at k
  exact (h.pf i hi1).one h.good hi1 hj1 k (by rw [hi2, hj2])
theorem ZPick.injf (h : ZPick N F p f g) {v i j : Nat} (hi : i ∈ zlvl N v) (hj : j ∈ zlvl N v) (e : f i = f j) : i = j := by
  have a := (h.f1 i (zlvl_mem.1 hi).1).2
  have b := (h.f1 j (zlvl_mem.1 hj).1).2
  rw [(zlvl_mem.1 hi).2] at a
  rw [(zlvl_mem.1 hj).2] at b
  exact h.inj hi hj (by rw [← a, ← b, e])
theorem ZPick.few (h : ZPick N F p f g) (v : Nat) : (zlvl N v).length ≤ 2 ^ v :=
  len_below (f := p) (zlvl_nodup N v) (fun x hx y hy e => h.inj hx hy e) fun x hx => by
    have := (h.pf x (zlvl_mem.1 hx).1).lt
    rw [(zlvl_mem.1 hx).2] at this
    exact this
/-- The nodes of one set, and the others. -/
noncomputable def zone (N : List ZNode) (F : Nat → Bool) (f : Nat → Nat) (v : Nat) : List Nat := (zlvl N v).filter (fun i => zal F (2 ^ v) (f i))
noncomputable def zmany (N : List ZNode) (F : Nat → Bool) (f : Nat → Nat) (v : Nat) : List Nat := (zlvl N v).filter (fun i => !zal F (2 ^ v) (f i))
theorem zone_many (N : List ZNode) (F : Nat → Bool) (f : Nat → Nat) (v : Nat) : (zone N F f v).length + (zmany N F f v).length = (zlvl N v).length :=
  filter_split _ _ _ fun _ _ => rfl
theorem zone_mem {v i : Nat} : i ∈ zone N F f v ↔ i ∈ zlvl N v ∧ ZAl F (2 ^ v) (f i) := by unfold zone; rw [List.mem_filter, zal_iff]
theorem zmany_mem {v i : Nat} : i ∈ zmany N F f v ↔ i ∈ zlvl N v ∧ ¬ ZAl F (2 ^ v) (f i) := by
  unfold zmany
  rw [List.mem_filter, Bool.not_eq_true', ← zal_iff, Bool.not_eq_true]
/-- The sets that are alone in their class of prefixes of 15 events, and the others. -/
noncomputable def zalone (F : Nat → Bool) : List Nat := (zls F).filter (zal F (2 ^ 15))
noncomputable def zpairs (F : Nat → Bool) : List Nat := (zls F).filter (fun s => !zal F (2 ^ 15) s)
theorem zalone_pairs (F : Nat → Bool) : (zalone F).length + (zpairs F).length = zcard F := filter_split _ _ _ fun _ _ => rfl
theorem ZPick.low (h : ZPick N F p f g) (hF : ZFrom 0 F) {v : Nat} (hv : v ≤ 15) : (zone N F f v).length ≤ (zalone F).length :=
  len_onto (f := f) (List.Pairwise.filter _ (zlvl_nodup N v)) (fun x hx y hy e => h.injf (zone_mem.1 hx).1 (zone_mem.1 hy).1 e) fun x hx => by
    obtain ⟨h1, h2⟩ := zone_mem.1 hx
    unfold zalone
    rw [List.mem_filter, zls_mem hF, zal_iff]
    exact ⟨(h.f1 x (zlvl_mem.1 h1).1).1, h2.finer (Nat.pow_dvd_pow 2 hv)⟩
theorem ZPick.two (h : ZPick N F p f g) (v : Nat) (l : List Nat) (hl : l.Nodup) (hs : ∀ x ∈ l, x ∈ zlvl N v) (B : List Nat) (hf : ∀ x ∈ l, f x ∈ B) (hgB : ∀ x ∈ zmany N F f v, g x ∈ B) : l.length + (zmany N F f v).length ≤ B.length := by
  have hn : (l.map f ++ (zmany N F f v).map g).Nodup := by
    rw [List.nodup_append]
    refine ⟨nodup_map_on hl fun x hx y hy e => h.injf (hs x hx) (hs y hy) e, nodup_map_on (List.Pairwise.filter _ (zlvl_nodup N v)) fun x hx y hy e => ?_, fun a ha b hb e => ?_⟩
    · obtain ⟨x1, x2⟩ := zmany_mem.1 hx
      obtain ⟨y1, y2⟩ := zmany_mem.1 hy
      have a := (h.g1 x (zlvl_mem.1 x1).1 (by rw [(zlvl_mem.1 x1).2]; exact x2)).2.1
      have b := (h.g1 y (zlvl_mem.1 y1).1 (by rw [(zlvl_mem.1 y1).2]; exact y2)).2.1
      rw [(zlvl_mem.1 x1).2] at a
      rw [(zlvl_mem.1 y1).2] at b
      exact h.inj x1 y1 (by rw [← a, ← b, e])
    · obtain ⟨x, hx, rfl⟩ := List.mem_map.1 ha
      obtain ⟨y, hy, rfl⟩ := List.mem_map.1 hb
      obtain ⟨y1, y2⟩ := zmany_mem.1 hy
      have x1 := hs x hx
      have a := (h.f1 x (zlvl_mem.1 x1).1).2
      obtain ⟨_, b, c⟩ := h.g1 y (zlvl_mem.1 y1).1 (by rw [(zlvl_mem.1 y1).2]; exact y2)
      rw [(zlvl_mem.1 x1).2] at a
      rw [(zlvl_mem.1 y1).2] at b
      have := h.inj x1 y1 (by rw [← a, ← b, e])
      subst this
      exact c e.symm
  have := zlen_le hn (b := B) fun x hx => by
    rcases List.mem_append.1 hx with hx | hx
    · obtain ⟨y, hy, rfl⟩ := List.mem_map.1 hx
      exact hf y hy
    · obtain ⟨y, hy, rfl⟩ := List.mem_map.1 hx
      exact hgB y hy
  rw [List.length_append, List.length_map, List.length_map] at this
  exact this
theorem ZPick.gin (h : ZPick N F p f g) {v x : Nat} (hx : x ∈ zmany N F f v) : F (g x) = true ∧ g x % 2 ^ v = f x % 2 ^ v ∧ g x ≠ f x := by
  obtain ⟨x1, x2⟩ := zmany_mem.1 hx
  obtain ⟨a, b, c⟩ := h.g1 x (zlvl_mem.1 x1).1 (by rw [(zlvl_mem.1 x1).2]; exact x2)
  have d := (h.f1 x (zlvl_mem.1 x1).1).2
  rw [(zlvl_mem.1 x1).2] at b d
  exact ⟨a, by rw [b, d], c⟩
theorem ZPick.mid (h : ZPick N F p f g) (hF : ZFrom 0 F) (v : Nat) : (zlvl N v).length + (zmany N F f v).length ≤ zcard F :=
  h.two v (zlvl N v) (zlvl_nodup N v) (fun _ hx => hx) (zls F) (fun x hx => (zls_mem hF _).2 (h.f1 x (zlvl_mem.1 hx).1).1) fun _ hx => (zls_mem hF _).2 (h.gin hx).1
theorem ZPick.high (h : ZPick N F p f g) (hF : ZFrom 0 F) {v : Nat} (hv : 15 ≤ v) : 2 * (zmany N F f v).length ≤ (zpairs F).length := by
  have key : ∀ s, F s = true → ¬ ZAl F (2 ^ v) s → s ∈ zpairs F := fun s hs hn => by
    unfold zpairs
    rw [List.mem_filter, zls_mem hF, Bool.not_eq_true', ← Bool.not_eq_true, zal_iff]
    exact ⟨hs, fun ha => hn (ha.finer (Nat.pow_dvd_pow 2 hv))⟩
  have := h.two v (zmany N F f v) (List.Pairwise.filter _ (zlvl_nodup N v)) (fun x hx => (zmany_mem.1 hx).1) (zpairs F)
    (fun x hx => key _ (h.f1 x (zlvl_mem.1 (zmany_mem.1 hx).1).1).1 (zmany_mem.1 hx).2)
    fun x hx => key _ (h.gin hx).1 fun ha => (h.gin hx).2.2 (ha _ (h.f1 x (zlvl_mem.1 (zmany_mem.1 hx).1).1).1 (h.gin hx).2.1.symm).symm
  omega
end
end Go.Proofs.Ytiplibgnfcdlkaa
