import Derived.Test.YtapniojbnochiaaK5
/-
  Plain: a formula with another Top; with an and or an or of two arguments on top.
-/
namespace Go.Proofs.Ytapniojbnochiaa

def topF (V x : Nat) (nodes : List Nd) : Fm := ⟨V, nodes, x⟩
def gateNd (kd : Int) (x y : Nat) : Nd := ⟨kd, 0, [(x : Int), (y : Int)]⟩
def gateF (V : Nat) (kd : Int) (x y : Nat) (nodes : List Nd) : Fm := ⟨V, nodes ++ [gateNd kd x y], ((V + nodes.length : Nat) : Int)⟩
theorem chk_of_ok {V T : Nat} {f : Fm} (h : Ok f V T) : chkF f = 0 := by
  have hV := h.v24
  have hT := h.tlt
  have hn := h.n128
  unfold chkF
  rw [h.vars, h.top, if_neg (by omega), if_neg (by omega), if_pos]
  · rw [if_pos]
    unfold okArg
    rw [decide_eq_true_eq, h.vars]
    omega
  · exact chkFrom_none _ _ fun j hj => chkNd_mk (h.kind j hj) (h.argc j hj) (h.args j hj) (h.arity j hj)
theorem top_ok {V T : Nat} {f : Fm} (h : Ok f V T) (x : Nat) (hx : x < V + f.nodes.length) : Ok (topF V x f.nodes) V x :=
  ⟨rfl, rfl, h.v24, h.n128, hx, h.kind, h.args, h.argc, h.arity⟩
theorem gate_ok {V T : Nat} {f : Fm} (h : Ok f V T) (kd : Int) (hk : kd = 2 ∨ kd = 3) (x y : Nat) (hx : x < V + f.nodes.length) (hy : y < V + f.nodes.length) (hn : f.nodes.length ≤ 100) : Ok (gateF V kd x y f.nodes) V (V + f.nodes.length) := by
  have hlen : (gateF V kd x y f.nodes).nodes.length = f.nodes.length + 1 := by simp [gateF]
  have hold : ∀ i (hi : i < f.nodes.length), (gateF V kd x y f.nodes).nodes[i]'(by rw [hlen]; omega) = f.nodes[i] := fun i hi => by
    simp only [gateF]; rw [List.getElem_append_left hi]
  have hnew : ∀ i (hi : i < (gateF V kd x y f.nodes).nodes.length), ¬ i < f.nodes.length → (gateF V kd x y f.nodes).nodes[i] = gateNd kd x y := fun i hi hl => by
    simp only [gateF]; rw [List.getElem_append_right (by omega)]; simp
  refine ⟨rfl, rfl, h.v24, by rw [hlen]; omega, by rw [hlen]; omega, fun i hi => ?_, fun i hi => ?_, fun i hi => ?_, fun i hi => ?_⟩
  · by_cases hl : i < f.nodes.length
    · rw [hold i hl]; exact h.kind i hl
    · rw [hnew i hi hl]; simp only [gateNd]; omega
  · by_cases hl : i < f.nodes.length
    · rw [hold i hl]; exact h.args i hl
    · rw [hnew i hi hl]
      intro a ha
      simp only [gateNd, List.mem_cons, List.not_mem_nil, or_false] at ha
      rcases ha with rfl | rfl <;> omega
  · by_cases hl : i < f.nodes.length
    · rw [hold i hl]; exact h.argc i hl
    · rw [hnew i hi hl]
      rcases hk with rfl | rfl <;> rfl
  · by_cases hl : i < f.nodes.length
    · rw [hold i hl]; exact h.arity i hl
    · rw [hnew i hi hl]
      rcases hk with rfl | rfl <;> rfl
theorem gate_getD (V : Nat) (kd : Int) (x y : Nat) (nodes : List Nd) (k : Nat) (hk : k < nodes.length) : (gateF V kd x y nodes).nodes.getD k noNd = nodes.getD k noNd := by
  simp only [gateF, List.getD_eq_getElem?_getD]
  rw [List.getElem?_append_left hk]
theorem markAll_val (m : List Bool) (args : List Int) (i : Nat) (hi : i < m.length) : (markAll m args).getD i false = (m.getD i false || args.any fun a => a.toNat == i) := by
  cases h : args.any fun a => a.toNat == i with
  | true =>
    obtain ⟨a, ha, he⟩ := List.any_eq_true.1 h
    have he2 : a.toNat = i := by simpa using he
    subst he2
    rw [markAll_mem args m a ha hi]; simp
  | false =>
    rw [markAll_other args m i fun a ha he => ?_]
    · simp
    · rw [List.any_eq_false] at h
      exact h a ha (by simpa using he)
theorem marks_or (V : Nat) (n3 nodes : List Nd) : ∀ k (m3 m1 m2 : List Bool), (∀ j, j < k → n3.getD j noNd = nodes.getD j noNd) → k ≤ nodes.length → m1.length = V + nodes.length → m2.length = V + nodes.length → V + nodes.length ≤ m3.length →
    (∀ i, i < V + nodes.length → m3.getD i false = (m1.getD i false || m2.getD i false)) → ∀ i, i < V + nodes.length → (belowGo V n3 k m3).getD i false = ((belowGo V nodes k m1).getD i false || (belowGo V nodes k m2).getD i false) := by
  intro k
  induction k with
  | zero => intro m3 m1 m2 _ _ _ _ _ h i hi; exact h i hi
  | succ k ih =>
    intro m3 m1 m2 hn hk h1 h2 h3 h i hi
    show (belowGo V n3 k _).getD i false = ((belowGo V nodes k _).getD i false || (belowGo V nodes k _).getD i false)
    refine ih _ _ _ (fun j hj => hn j (by omega)) (by omega) ?_ ?_ ?_ ?_ i hi
    · split
      · rw [len_markAll]; exact h1
      · exact h1
    · split
      · rw [len_markAll]; exact h2
      · exact h2
    · split
      · rw [len_markAll]; exact h3
      · exact h3
    · intro j hj
      have hv := h (V + k) (by omega)
      have hj0 := h j hj
      rw [hv, hn k (by omega)]
      cases e1 : m1.getD (V + k) false <;> cases e2 : m2.getD (V + k) false
      · simpa using hj0
      · simp only [Bool.or_true, if_true, Bool.false_eq_true, if_false]
        rw [markAll_val _ _ _ (by omega), markAll_val _ _ _ (by omega), hj0, Bool.or_assoc]
      · simp only [Bool.or_false, if_true, Bool.false_eq_true, if_false]
        rw [markAll_val _ _ _ (by omega), markAll_val _ _ _ (by omega), hj0]
        cases m1.getD j false <;> cases m2.getD j false <;> simp
      · simp only [Bool.or_true, if_true]
        rw [markAll_val _ _ _ (by omega), markAll_val _ _ _ (by omega), markAll_val _ _ _ (by omega), hj0]
        cases m1.getD j false <;> cases m2.getD j false <;> simp
theorem gate_marks {V T : Nat} {f : Fm} (_h : Ok f V T) (kd : Int) (x y : Nat) (hx : x < V + f.nodes.length) (hy : y < V + f.nodes.length) (i : Nat) (hi : i < V + f.nodes.length) :
    (belowK V (V + f.nodes.length) (gateF V kd x y f.nodes).nodes).getD i false = ((belowK V x f.nodes).getD i false || (belowK V y f.nodes).getD i false) := by
  have hlen : (gateF V kd x y f.nodes).nodes.length = f.nodes.length + 1 := by simp [gateF]
  have hget : ∀ (N t j : Nat), t < N → ((List.replicate N false).set t true).getD j false = decide (j = t) := by
    intro N t j ht
    rw [List.getD_eq_getElem?_getD]
    by_cases e : j = t
    · subst e; rw [List.getElem?_set_self (by simpa using ht)]; simp
    · rw [List.getElem?_set_ne (Ne.symm e)]
      have : (List.replicate N false)[j]?.getD false = false := by rw [List.getElem?_replicate]; split <;> rfl
      rw [this]; simp [e]
  unfold belowK
  rw [hlen]
  show (belowGo V _ f.nodes.length _).getD i false = _
  rw [if_pos (by rw [hget _ _ _ (by omega)]; simp)]
  have hnd : (gateF V kd x y f.nodes).nodes.getD f.nodes.length noNd = gateNd kd x y := by
    simp only [gateF, List.getD_eq_getElem?_getD]
    rw [List.getElem?_append_right (by omega)]; simp
  rw [hnd]
  refine marks_or V _ f.nodes f.nodes.length _ _ _ (fun j hj => gate_getD V kd x y f.nodes j hj) (Nat.le_refl _) (by simp) (by simp) (by rw [len_markAll]; simp) ?_ i hi
  intro j hj
  rw [markAll_val _ _ _ (by simp; omega), hget _ _ _ (by omega), hget _ _ _ hx, hget _ _ _ hy]
  have e : decide (j = V + f.nodes.length) = false := by simp; omega
  rw [e]
  simp only [gateNd, List.any_cons, List.any_nil, Int.toNat_natCast, Bool.or_false, Bool.false_or]
  have q1 : (x == j) = decide (j = x) := by rw [Bool.eq_iff_iff, beq_iff_eq, decide_eq_true_eq]; exact eq_comm
  have q2 : (y == j) = decide (j = y) := by rw [Bool.eq_iff_iff, beq_iff_eq, decide_eq_true_eq]; exact eq_comm
  rw [q1, q2]
theorem gate_syn {V T : Nat} {f : Fm} (h : Ok f V T) (kd : Int) (hk : kd = 2 ∨ kd = 3) (x y : Nat) (hx : x < V + f.nodes.length) (hy : y < V + f.nodes.length) (hn : f.nodes.length ≤ 100) :
    synK V (V + f.nodes.length) (gateF V kd x y f.nodes) = (synK V x (topF V x f.nodes) && synK V y (topF V y f.nodes)) := by
  have hlen : (gateF V kd x y f.nodes).nodes.length = f.nodes.length + 1 := by simp [gateF]
  have hold : ∀ i (hi : i < f.nodes.length), (gateF V kd x y f.nodes).nodes[i]'(by rw [hlen]; omega) = f.nodes[i] := fun i hi => by
    simp only [gateF]; rw [List.getElem_append_left hi]
  have hokx := top_ok h x hx
  have hoky := top_ok h y hy
  have hokg := gate_ok h kd hk x y hx hy hn
  rw [Bool.eq_iff_iff, Bool.and_eq_true]
  constructor
  · intro hs
    have one : ∀ t, t < V + f.nodes.length → (∀ i, i < V + f.nodes.length → (belowK V t f.nodes).getD i false = true → (belowK V (V + f.nodes.length) (gateF V kd x y f.nodes).nodes).getD i false = true) → synK V t (topF V t f.nodes) = true := by
      intro t _ himp
      unfold synK
      refine kinds_all V _ _ _ (Nat.le_refl _) fun i hi _ hm => ?_
      have hi' : i < f.nodes.length := hi
      have := kind_mono hokg hs i (by rw [hlen]; omega) (himp (V + i) (by omega) hm)
      rw [hold i hi'] at this
      show f.nodes[i].kind ≠ 1 ∧ f.nodes[i].kind ≠ 5
      omega
    exact ⟨one x hx fun i hi hm => by rw [gate_marks h kd x y hx hy i hi, hm]; rfl, one y hy fun i hi hm => by rw [gate_marks h kd x y hx hy i hi, hm]; simp⟩
  · rintro ⟨h1, h2⟩
    unfold synK
    refine kinds_all V _ _ _ (Nat.le_refl _) fun i hi _ hm => ?_
    by_cases hl : i < f.nodes.length
    · rw [hold i hl]
      rw [gate_marks h kd x y hx hy (V + i) (by omega), Bool.or_eq_true] at hm
      rcases hm with hm | hm
      · have := kind_mono hokx h1 i hl hm
        have e : (topF V x f.nodes).nodes[i]'hl = f.nodes[i] := rfl
        rw [e] at this; omega
      · have := kind_mono hoky h2 i hl hm
        have e : (topF V y f.nodes).nodes[i]'hl = f.nodes[i] := rfl
        rw [e] at this; omega
    · have hnew : (gateF V kd x y f.nodes).nodes[i] = gateNd kd x y := by
        simp only [gateF]; rw [List.getElem_append_right (by omega)]; simp
      rw [hnew]
      simp only [gateNd]; omega
theorem vals_pre (V s : Nat) (n3 nodes : List Nd) : ∀ k, (∀ j, j < k → n3.getD j noNd = nodes.getD j noNd) → valsUp V s n3 k = valsUp V s nodes k := by
  intro k
  induction k with
  | zero => intro _; rfl
  | succ k ih =>
    intro h
    unfold valsUp
    rw [ih fun j hj => h j (by omega), h k (by omega)]
theorem gate_vals (V s : Nat) (kd : Int) (x y : Nat) (nodes : List Nd) : (valsK V s (gateF V kd x y nodes).nodes).getD (V + nodes.length) false = nodeV kd 0 (trueN (valsK V s nodes) [(x : Int), (y : Int)]) 2 := by
  have hlen : (gateF V kd x y nodes).nodes.length = nodes.length + 1 := by simp [gateF]
  have hnd : (gateF V kd x y nodes).nodes.getD nodes.length noNd = gateNd kd x y := by
    simp only [gateF, List.getD_eq_getElem?_getD]
    rw [List.getElem?_append_right (by omega)]; simp
  unfold valsK
  rw [hlen]
  show (valsUp V s _ nodes.length ++ [_]).getD (V + nodes.length) false = _
  rw [getD_snoc _ _ _ (len_valsUp V s _ nodes.length).symm, hnd, vals_pre V s _ nodes nodes.length fun j hj => gate_getD V kd x y nodes j hj]; rfl
theorem gate_and (V s x y : Nat) (nodes : List Nd) : (valsK V s (gateF V 2 x y nodes).nodes).getD (V + nodes.length) false = true ↔ (valsK V s nodes).getD x false = true ∧ (valsK V s nodes).getD y false = true := by
  rw [gate_vals]
  unfold nodeV
  simp only [show ¬ (2 : Int) = 0 by decide, show ¬ (2 : Int) = 1 by decide, if_true, if_false, trueN, Int.toNat_natCast]
  by_cases a : (valsK V s nodes).getD x false = true
  · rw [if_pos a]
    by_cases b : (valsK V s nodes).getD y false = true
    · rw [if_pos b]; exact ⟨fun _ => ⟨a, b⟩, fun _ => rfl⟩
    · rw [if_neg b]; exact ⟨fun h => absurd h (by decide), fun h => absurd h.2 b⟩
  · rw [if_neg a]
    by_cases b : (valsK V s nodes).getD y false = true
    · rw [if_pos b]; exact ⟨fun h => absurd h (by decide), fun h => absurd h.1 a⟩
    · rw [if_neg b]; exact ⟨fun h => absurd h (by decide), fun h => absurd h.1 a⟩
theorem gate_or (V s x y : Nat) (nodes : List Nd) : (valsK V s (gateF V 3 x y nodes).nodes).getD (V + nodes.length) false = true ↔ (valsK V s nodes).getD x false = true ∨ (valsK V s nodes).getD y false = true := by
  rw [gate_vals]
  unfold nodeV
  rw [if_neg (by decide), if_neg (by decide), if_neg (by decide), if_pos rfl, decide_eq_true_eq, trueN_pos]
  constructor
  · rintro ⟨a, ha, h⟩
    rcases List.mem_cons.1 ha with rfl | ha
    · exact .inl h
    · rcases List.mem_cons.1 ha with rfl | ha
      · exact .inr h
      · cases ha
  · rintro (h | h)
    · exact ⟨(x : Int), by simp, h⟩
    · exact ⟨(y : Int), by simp, h⟩
theorem gates_product {V T x y : Nat} {f : Fm} (h : Ok f V T) (hx : x < V + f.nodes.length) (hy : y < V + f.nodes.length) (hn : f.nodes.length ≤ 100) {p1 p2 p3 : List Nat × List Nat}
    (h1 : topK V x f.nodes = some p1) (h2 : topK V y f.nodes = some p2) (h3 : topK V (V + f.nodes.length) (gateF V 2 x y f.nodes).nodes = some p3) (s1 : synK V x (topF V x f.nodes) = true) (s2 : synK V y (topF V y f.nodes) = true) : productK p1.1 p2.1 = some p3.1 := by
  have s3 : synK V (V + f.nodes.length) (gateF V 2 x y f.nodes) = true := by rw [gate_syn h 2 (.inl rfl) x y hx hy hn, s1, s2]; rfl
  obtain ⟨g1, _, u1⟩ := topK_says (top_ok h x hx) s1 h1
  obtain ⟨g2, _, u2⟩ := topK_says (top_ok h y hy) s2 h2
  obtain ⟨g3, _, u3⟩ := topK_says (gate_ok h 2 (.inl rfl) x y hx hy hn) s3 h3
  have e : minK (allU (minK p1.1) (minK p2.1)) = p3.1 := can_eq (can_minK _) g3.1 fun s => by
    rw [up_minK, up_allU, up_minK, up_minK, u1, u2, u3, gate_and]; exact Iff.rfl
  unfold productK
  rw [if_pos ⟨g1.2, g2.2⟩, e, if_pos g3.2]
theorem gates_plus {V T x y : Nat} {f : Fm} (h : Ok f V T) (hx : x < V + f.nodes.length) (hy : y < V + f.nodes.length) (hn : f.nodes.length ≤ 100) {p1 p2 p3 : List Nat × List Nat}
    (h1 : topK V x f.nodes = some p1) (h2 : topK V y f.nodes = some p2) (h3 : topK V (V + f.nodes.length) (gateF V 3 x y f.nodes).nodes = some p3) (s1 : synK V x (topF V x f.nodes) = true) (s2 : synK V y (topF V y f.nodes) = true) : plusK p1.1 p2.1 = some p3.1 := by
  have s3 : synK V (V + f.nodes.length) (gateF V 3 x y f.nodes) = true := by rw [gate_syn h 3 (.inr rfl) x y hx hy hn, s1, s2]; rfl
  obtain ⟨g1, _, u1⟩ := topK_says (top_ok h x hx) s1 h1
  obtain ⟨g2, _, u2⟩ := topK_says (top_ok h y hy) s2 h2
  obtain ⟨g3, _, u3⟩ := topK_says (gate_ok h 3 (.inr rfl) x y hx hy hn) s3 h3
  have e : minK (p1.1 ++ p2.1) = p3.1 := can_eq (can_minK _) g3.1 fun s => by
    rw [up_minK, up_append, u1, u2, u3, gate_or]; exact Iff.rfl
  unfold plusK
  rw [if_pos ⟨g1.2, g2.2⟩, e, if_pos g3.2]
end Go.Proofs.Ytapniojbnochiaa
