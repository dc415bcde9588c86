/-
  Plain: the values of a formula's arguments; what the families say of them.
-/
import Derived.Test.YtcgfjacidjebaaaP6
namespace Go.Proofs.Ytcgfjacidjebaaa

/-- How many of the arguments are true. -/
def trueN (vals : List Bool) : List Int → Nat
  | [] => 0
  | a :: l => (if vals.getD a.toNat false then 1 else 0) + trueN vals l
def nodeV (kind k : Int) (t m : Nat) : Bool :=
  if kind = 0 then k == 1 else if kind = 1 then t == 0 else if kind = 2 then t == m else if kind = 3 then decide (0 < t) else if kind = 4 then decide (k ≤ (t : Int)) else t % 2 == 1
/-- The values of the events, then of the first k nodes. -/
def valsUp (V s : Nat) (nodes : List Nd) : Nat → List Bool
  | 0 => (List.range V).map fun i => s.testBit i
  | k + 1 => valsUp V s nodes k ++ [nodeV (nodes.getD k noNd).kind (nodes.getD k noNd).k (trueN (valsUp V s nodes k) (nodes.getD k noNd).args) (nodes.getD k noNd).args.length]
def valsK (V s : Nat) (nodes : List Nd) : List Bool := valsUp V s nodes nodes.length
theorem len_valsUp (V s : Nat) (nodes : List Nd) (k : Nat) : (valsUp V s nodes k).length = V + k := by
  induction k with
  | zero => simp [valsUp]
  | succ k ih => unfold valsUp; simp [ih]; omega
theorem valsUp_get (V s : Nat) (nodes : List Nd) (j : Nat) : ∀ k i, i < V + j → j ≤ k → (valsUp V s nodes k).getD i false = (valsUp V s nodes j).getD i false := by
  intro k
  induction k with
  | zero => intro i hi hj; have : j = 0 := by omega
            subst this; rfl
  | succ k ih =>
    intro i hi hj
    by_cases e : j = k + 1
    · subst e; rfl
    · rw [← ih i hi (by omega)]
      show (valsUp V s nodes k ++ _).getD i false = _
      rw [List.getD_eq_getElem?_getD, List.getElem?_append_left (by rw [len_valsUp]; omega), ← List.getD_eq_getElem?_getD]
theorem valsUp_event (V s : Nat) (nodes : List Nd) (k i : Nat) (hi : i < V) : (valsUp V s nodes k).getD i false = s.testBit i := by
  rw [valsUp_get V s nodes 0 k i (by omega) (by omega)]
  simp [valsUp, List.getD_eq_getElem?_getD, hi]
theorem trueN_append (vals : List Bool) (a b : List Int) : trueN vals (a ++ b) = trueN vals a + trueN vals b := by
  induction a with
  | nil => simp [trueN]
  | cons x a ih => simp [trueN, ih]; omega
theorem trueN_le (vals : List Bool) (a : List Int) : trueN vals a ≤ a.length := by
  induction a with
  | nil => simp [trueN]
  | cons x a ih => simp only [trueN, List.length_cons]; split <;> omega
theorem trueN_congr (v1 v2 : List Bool) (a : List Int) (h : ∀ x ∈ a, v1.getD x.toNat false = v2.getD x.toNat false) : trueN v1 a = trueN v2 a := by
  induction a with
  | nil => rfl
  | cons x a ih => simp only [trueN]; rw [h x (List.mem_cons_self ..), ih fun y hy => h y (List.mem_cons_of_mem _ hy)]
/-- How many families have a set inside s. -/
noncomputable def upN (s : Nat) : List (List Nat) → Nat
  | [] => 0
  | f :: l => (open Classical in if up f s then 1 else 0) + upN s l
theorem upN_append (s : Nat) (a b : List (List Nat)) : upN s (a ++ b) = upN s a + upN s b := by
  induction a with
  | nil => simp [upN]
  | cons x a ih => simp [upN, ih]; omega
theorem upN_le (s : Nat) (a : List (List Nat)) : upN s a ≤ a.length := by
  induction a with
  | nil => simp [upN]
  | cons x a ih => simp only [upN, List.length_cons]; split <;> omega
theorem upN_pos (s : Nat) (a : List (List Nat)) : 0 < upN s a ↔ ∃ f ∈ a, up f s := by
  induction a with
  | nil => simp [upN]
  | cons x a ih =>
    simp only [upN, List.mem_cons]
    by_cases h : up x s
    · rw [if_pos h]; exact ⟨fun _ => ⟨x, .inl rfl, h⟩, fun _ => by omega⟩
    · rw [if_neg h, Nat.zero_add, ih]
      exact ⟨fun ⟨f, hf, h1⟩ => ⟨f, .inr hf, h1⟩, fun ⟨f, hf, h1⟩ => hf.elim (fun e => absurd (e ▸ h1) h) fun hf => ⟨f, hf, h1⟩⟩
theorem upN_all (s : Nat) (a : List (List Nat)) : upN s a = a.length ↔ ∀ f ∈ a, up f s := by
  induction a with
  | nil => simp [upN]
  | cons x a ih =>
    simp only [upN, List.length_cons, List.mem_cons]
    have := upN_le s a
    by_cases h : up x s
    · rw [if_pos h]
      constructor
      · intro e f hf
        rcases hf with rfl | hf
        · exact h
        · exact ih.1 (by omega) f hf
      · intro e
        have := ih.2 fun f hf => e f (.inr hf)
        omega
    · rw [if_neg h]
      constructor
      · intro e; omega
      · intro e; exact absurd (e x (.inl rfl)) h
/-- The rows of a vote: place j holds "at least j of the arguments so far". -/
theorem up_voteUp (arg : List Nat) (t : List (List Nat)) (s c : Nat) (ht : ∀ j, j < t.length → (up (t.getD j []) s ↔ j ≤ c)) : ∀ m acc, m < t.length → voteUp arg t m = some acc → ∀ j, j < acc.length → (up (acc.getD j []) s ↔ j ≤ c + upN s [arg]) := by
  intro m
  induction m with
  | zero =>
    intro acc _ h j hj
    cases h
    have : j = 0 := by simp at hj; omega
    subst this
    exact ⟨fun _ => by omega, fun _ => up_zero s⟩
  | succ m ih =>
    intro acc hm h j hj
    unfold voteUp at h
    cases h1 : voteUp arg t m with
    | none => rw [h1] at h; cases h
    | some a =>
      rw [h1] at h
      simp only [Option.bind_some] at h
      have hal := len_voteUp arg t m a h1
      cases h2 : nextAt arg t m with
      | none => rw [h2] at h; cases h
      | some x =>
        rw [h2] at h
        cases h
        by_cases hja : j < a.length
        · rw [List.getD_eq_getElem?_getD, List.getElem?_append_left hja, ← List.getD_eq_getElem?_getD]
          exact ih a (by omega) h1 j hja
        · have e : j = m + 1 := by simp at hj; omega
          subst e
          rw [List.getD_eq_getElem?_getD, List.getElem?_append_right (by omega), hal, Nat.sub_self]
          show up x s ↔ _
          unfold nextAt at h2
          cases h3 : productK arg (t.getD m []) with
          | none => rw [h3] at h2; cases h2
          | some p =>
            rw [h3] at h2
            rw [up_plusK h2, up_productK h3, ht m (by omega), ht (m + 1) hm]
            simp only [upN]
            by_cases hu : up arg s
            · rw [if_pos hu]
              constructor
              · rintro (⟨_, h⟩ | h) <;> omega
              · intro h; exact .inl ⟨hu, by omega⟩
            · rw [if_neg hu]
              constructor
              · rintro (⟨h, _⟩ | h)
                · exact absurd h hu
                · omega
              · intro h; exact .inr (by omega)
theorem up_voteDown (k s : Nat) (args : List (List Nat)) : ∀ q t c r, q ≤ args.length → t.length = k + 1 → (∀ j, j < t.length → (up (t.getD j []) s ↔ j ≤ c)) → voteDown k args q t = some r →
    r.length = k + 1 ∧ ∀ j, j < r.length → (up (r.getD j []) s ↔ j ≤ c + upN s (args.take q)) := by
  intro q
  induction q with
  | zero => intro t c r _ hl ht h; cases h; exact ⟨hl, fun j hj => by simpa [upN] using ht j hj⟩
  | succ q ih =>
    intro t c r hq hl ht h
    unfold voteDown at h
    cases h1 : voteUp (args.getD q []) t k with
    | none => rw [h1] at h; cases h
    | some a =>
      rw [h1] at h
      have hal := len_voteUp _ t k a h1
      have h2 := ih a (c + upN s [args.getD q []]) r (by omega) hal (up_voteUp _ t s c ht k a (by omega) h1) h
      refine ⟨h2.1, fun j hj => ?_⟩
      rw [h2.2 j hj, List.take_succ_eq_append_getElem (by omega), upN_append, show args.getD q [] = args[q] by simp [List.getD_eq_getElem?_getD, show q < args.length by omega]]
      omega
theorem up_voteK {args : List (List Nat)} {k : Nat} {l : List Nat} (h : voteK args k = some l) (s : Nat) : up l s ↔ k ≤ upN s args := by
  unfold voteK at h
  cases h1 : voteDown k args args.length ([0] :: List.replicate k []) with
  | none => rw [h1] at h; cases h
  | some r =>
    rw [h1] at h
    cases h
    obtain ⟨h2, h3⟩ := up_voteDown k s args args.length _ 0 r (Nat.le_refl _) (by simp) (by
      intro j hj
      cases j with
      | zero => exact ⟨fun _ => by omega, fun _ => up_zero s⟩
      | succ j =>
        have : ([0] :: List.replicate k ([] : List Nat)).getD (j + 1) [] = [] := by
          rw [List.getD_eq_getElem?_getD]
          simp at hj ⊢
          simp [hj]
        rw [this]
        exact ⟨fun h => absurd h (up_nil s), fun h => by omega⟩) h1
    rw [h3 k (by omega), List.take_length]
    simp
/-- A node's family says its value. -/
theorem up_nodeK {kind k : Int} {fams : List (List Nat)} {l : List Nat} (h : nodeK kind k fams = some l) (hk : kind = 0 ∨ kind = 2 ∨ kind = 3 ∨ kind = 4) (h4 : kind = 4 → 0 ≤ k) (s : Nat) : up l s ↔ nodeV kind k (upN s fams) fams.length = true := by
  unfold nodeK at h
  unfold nodeV
  rcases hk with rfl | rfl | rfl | rfl
  · simp only [if_true] at h ⊢
    by_cases e : k = 1
    · rw [if_pos e] at h; cases h; simp [e, up_zero]
    · rw [if_neg e] at h; cases h; simp [e, up_nil]
  · simp only [show ¬ (2 : Int) = 0 by decide, show ¬ (2 : Int) = 3 by decide, show ¬ (2 : Int) = 1 by decide, if_true, if_false] at h ⊢
    rw [up_foldAnd fams s [0] l h, beq_iff_eq, upN_all]
    simp [up_zero]
  · simp only [show ¬ (3 : Int) = 0 by decide, show ¬ (3 : Int) = 2 by decide, show ¬ (3 : Int) = 1 by decide, if_true, if_false] at h ⊢
    rw [up_foldOr fams s [] l h, decide_eq_true_eq, upN_pos]
    simp [up_nil]
  · simp only [show ¬ (4 : Int) = 0 by decide, show ¬ (4 : Int) = 2 by decide, show ¬ (4 : Int) = 1 by decide, show ¬ (4 : Int) = 3 by decide, if_true, if_false] at h ⊢
    rw [up_voteK h, decide_eq_true_eq]
    have := h4 rfl
    omega
theorem pow_sub (Y s : Nat) : subN (2 ^ Y) s = s.testBit Y := by
  rw [Bool.eq_iff_iff, subN_iff]
  constructor
  · intro h; exact h Y (by simp)
  · intro h i hi
    simp [Nat.testBit_two_pow] at hi
    subst hi
    exact h
/-- The families of the nodes that are marked say their values. -/
theorem up_famsUp (V T s : Nat) (f : Fm) (hok : Ok f V T) (hs : synK V T f = true) (mark : List Bool) (hmark : mark = belowK V T f.nodes)
    (hcl : ∀ i (hi : i < f.nodes.length), mark.getD (V + i) false = true → ∀ a ∈ f.nodes[i].args, mark.getD a.toNat false = true) :
    ∀ k out, k ≤ f.nodes.length → famsUp V mark f.nodes k = some out → ∀ i, i < k → mark.getD (V + i) false = true → (up (out.getD i []) s ↔ (valsUp V s f.nodes k).getD (V + i) false = true) := by
  intro k
  induction k with
  | zero => intro out _ _ i hi; omega
  | succ k ih =>
    intro out hk h i hi hm
    unfold famsUp at h
    cases h1 : famsUp V mark f.nodes k with
    | none => rw [h1] at h; cases h
    | some o =>
      rw [h1] at h
      simp only [Option.bind_some, famStep] at h
      have hkx : k < f.nodes.length := by omega
      have hnd : f.nodes.getD k noNd = f.nodes[k] := by simp [List.getD_eq_getElem?_getD, hkx]
      have hol := len_famsUp V mark f.nodes k o h1
      have hold : ∀ i, i < k → mark.getD (V + i) false = true → (up (o.getD i []) s ↔ (valsUp V s f.nodes (k + 1)).getD (V + i) false = true) := fun i hi hm => by
        rw [valsUp_get V s f.nodes k (k + 1) (V + i) (by omega) (by omega)]
        exact ih o (by omega) h1 i hi hm
      rw [hnd] at h
      by_cases e : i = k
      · subst e
        rw [if_pos hm] at h
        cases h2 : nodeK f.nodes[i].kind f.nodes[i].k (f.nodes[i].args.map (famArg V o)) with
        | none => rw [h2] at h; cases h
        | some l =>
          rw [h2] at h
          cases h
          rw [List.getD_eq_getElem?_getD, List.getElem?_set_self (by omega)]
          show up l s ↔ _
          have hval : (valsUp V s f.nodes (i + 1)).getD (V + i) false = nodeV f.nodes[i].kind f.nodes[i].k (trueN (valsUp V s f.nodes i) f.nodes[i].args) f.nodes[i].args.length := by
            show (valsUp V s f.nodes i ++ _).getD (V + i) false = _
            rw [List.getD_eq_getElem?_getD, List.getElem?_append_right (by rw [len_valsUp]; omega), len_valsUp, Nat.sub_self, hnd]
            rfl
          have hcnt : ∀ bs : List Int, (∀ a ∈ bs, (0 ≤ a ∧ a < (V : Int) + i) ∧ mark.getD a.toNat false = true) → upN s (bs.map (famArg V o)) = trueN (valsUp V s f.nodes i) bs := by
            intro bs
            induction bs with
            | nil => intro _; rfl
            | cons a bs iha =>
              intro ha
              have h3 := ha a (List.mem_cons_self ..)
              simp only [List.map_cons, upN, trueN]
              rw [iha fun x hx => ha x (List.mem_cons_of_mem _ hx)]
              congr 1
              have key : up (famArg V o a) s ↔ (valsUp V s f.nodes i).getD a.toNat false = true := by
                obtain ⟨A, rfl⟩ := Int.eq_ofNat_of_zero_le h3.1.1
                simp only [Int.toNat_natCast] at h3 ⊢
                unfold famArg
                by_cases hAV : A < V
                · rw [if_pos (by omega), valsUp_event V s f.nodes i A hAV]
                  constructor
                  · rintro ⟨t, ht, hts⟩
                    simp at ht
                    subst ht
                    rw [← pow_sub]; exact hts
                  · intro hb
                    exact ⟨2 ^ A, by simp, by rw [pow_sub]; exact hb⟩
                · rw [if_neg (by omega), show ((A : Int) - (V : Int)).toNat = A - V by omega]
                  have := ih o (by omega) h1 (A - V) (by omega) (by rw [show V + (A - V) = A by omega]; exact h3.2)
                  rw [show V + (A - V) = A by omega] at this
                  exact this
              by_cases hu : up (famArg V o a) s
              · rw [if_pos hu, if_pos (key.1 hu)]
              · rw [if_neg hu, if_neg (fun h => hu (key.2 h))]
          have hc := hcnt f.nodes[i].args (fun a ha => ⟨hok.args i hkx a ha, hcl i hkx hm a ha⟩)
          rw [up_nodeK h2 (by
              have := kind_mono hok hs i hkx (by rw [← hmark]; exact hm)
              omega) (fun h4 => by
              have := hok.arity i hkx
              unfold chkK at this
              rw [if_neg (by omega), if_pos h4] at this
              split at this
              · omega
              · cases this) s, hval, hc, List.length_map]
      · split at h
        · cases h2 : nodeK f.nodes[k].kind f.nodes[k].k (f.nodes[k].args.map (famArg V o)) with
          | none => rw [h2] at h; cases h
          | some l =>
            rw [h2] at h
            cases h
            rw [List.getD_eq_getElem?_getD, List.getElem?_set_ne (by omega), ← List.getD_eq_getElem?_getD]
            exact hold i (by omega) hm
        · cases h; exact hold i (by omega) hm
/-- Nothing is found for a node that is not marked. -/
theorem fams_unmarked (V : Nat) (mark : List Bool) (nodes : List Nd) : ∀ k out, famsUp V mark nodes k = some out → ∀ i, mark.getD (V + i) false = false → out.getD i [] = [] := by
  intro k
  induction k with
  | zero =>
    intro out h i _
    cases h
    rw [List.getD_eq_getElem?_getD]
    by_cases hi : i < nodes.length
    · simp [hi]
    · simp [hi]
  | succ k ih =>
    intro out h i hm
    unfold famsUp at h
    cases h1 : famsUp V mark nodes k with
    | none => rw [h1] at h; cases h
    | some o =>
      rw [h1] at h
      simp only [Option.bind_some, famStep] at h
      split at h
      · rename_i hmk
        cases h2 : nodeK (nodes.getD k noNd).kind (nodes.getD k noNd).k ((nodes.getD k noNd).args.map (famArg V o)) with
        | none => rw [h2] at h; cases h
        | some l =>
          rw [h2] at h
          cases h
          have hne : k ≠ i := fun e => by subst e; rw [hmk] at hm; cases hm
          rw [List.getD_eq_getElem?_getD, List.getElem?_set_ne hne, ← List.getD_eq_getElem?_getD]
          exact ih o h1 i hm
      · cases h; exact ih _ h1 i hm
/-- What is below a marked node is marked. -/
theorem markAll_keep (args : List Int) : ∀ (m : List Bool) (i : Nat), m.getD i false = true → (markAll m args).getD i false = true := by
  induction args with
  | nil => intro m i h; exact h
  | cons a l ih =>
    intro m i h
    refine ih (m.set a.toNat true) i ?_
    rw [List.getD_eq_getElem?_getD] at h ⊢
    by_cases e : a.toNat = i
    · subst e
      by_cases hl : a.toNat < m.length
      · rw [List.getElem?_set_self hl]; rfl
      · rw [List.getElem?_eq_none (by omega)] at h; cases h
    · rw [List.getElem?_set_ne e]; exact h
theorem markAll_mem (args : List Int) : ∀ (m : List Bool) (a : Int), a ∈ args → a.toNat < m.length → (markAll m args).getD a.toNat false = true := by
  induction args with
  | nil => intro m a h; cases h
  | cons x l ih =>
    intro m a ha hl
    rcases List.mem_cons.1 ha with e | e
    · subst e
      refine markAll_keep l (m.set a.toNat true) a.toNat ?_
      rw [List.getD_eq_getElem?_getD, List.getElem?_set_self hl]; rfl
    · exact ih (m.set x.toNat true) a e (by simpa using hl)
theorem markAll_other (args : List Int) : ∀ (m : List Bool) (i : Nat), (∀ a ∈ args, a.toNat ≠ i) → (markAll m args).getD i false = m.getD i false := by
  induction args with
  | nil => intro m i _; rfl
  | cons a l ih =>
    intro m i h
    rw [show markAll m (a :: l) = markAll (m.set a.toNat true) l from rfl, ih (m.set a.toNat true) i fun x hx => h x (List.mem_cons_of_mem _ hx)]
    rw [List.getD_eq_getElem?_getD, List.getElem?_set_ne (h a (List.mem_cons_self ..)), ← List.getD_eq_getElem?_getD]
theorem belowGo_keep (V : Nat) (nodes : List Nd) : ∀ k m i, m.getD i false = true → (belowGo V nodes k m).getD i false = true := by
  intro k
  induction k with
  | zero => intro m i h; exact h
  | succ k ih =>
    intro m i h
    unfold belowGo
    refine ih _ i ?_
    split
    · exact markAll_keep _ _ _ h
    · exact h
theorem belowGo_same (V : Nat) (nodes : List Nd) (hargs : ∀ i (h : i < nodes.length), ∀ a ∈ nodes[i].args, 0 ≤ a ∧ a < (V : Int) + i) : ∀ k m i, k ≤ nodes.length → k ≤ i → (belowGo V nodes k m).getD (V + i) false = m.getD (V + i) false := by
  intro k
  induction k with
  | zero => intro m i _ _; rfl
  | succ k ih =>
    intro m i hk hi
    unfold belowGo
    rw [ih _ i (by omega) (by omega)]
    split
    · refine markAll_other _ _ _ fun a ha e => ?_
      rw [show nodes.getD k noNd = nodes[k] by simp [List.getD_eq_getElem?_getD, show k < nodes.length by omega]] at ha
      have := hargs k (by omega) a ha
      omega
    · rfl
theorem belowGo_closed (V : Nat) (nodes : List Nd) (hargs : ∀ i (h : i < nodes.length), ∀ a ∈ nodes[i].args, 0 ≤ a ∧ a < (V : Int) + i) : ∀ k m, k ≤ nodes.length → m.length = V + nodes.length →
    ∀ i (_ : i < k) (h : i < nodes.length), (belowGo V nodes k m).getD (V + i) false = true → ∀ a ∈ nodes[i].args, (belowGo V nodes k m).getD a.toNat false = true := by
  intro k
  induction k with
  | zero => intro m _ _ i hi; omega
  | succ k ih =>
    intro m hk hm i hi h hmark a ha
    have hnd : nodes.getD k noNd = nodes[k] := by simp [List.getD_eq_getElem?_getD, show k < nodes.length by omega]
    unfold belowGo at hmark ⊢
    by_cases e : i = k
    · subst e
      have h2 := belowGo_same V nodes hargs i (if m.getD (V + i) false then markAll m (nodes.getD i noNd).args else m) i (by omega) (Nat.le_refl _)
      rw [h2] at hmark
      have hmi : m.getD (V + i) false = true := by
        by_cases hb : m.getD (V + i) false = true
        · exact hb
        · rw [if_neg hb] at hmark; exact hmark
      refine belowGo_keep V nodes i _ _ ?_
      rw [if_pos hmi, hnd]
      have := hargs i h a ha
      exact markAll_mem _ m a ha (by omega)
    · exact ih (if m.getD (V + k) false then markAll m (nodes.getD k noNd).args else m) (by omega) (by split; rw [len_markAll, hm]; exact hm) i (by omega) h hmark a ha
theorem below_closed (V T : Nat) (f : Fm) (hok : Ok f V T) : ∀ i (hi : i < f.nodes.length), (belowK V T f.nodes).getD (V + i) false = true → ∀ a ∈ f.nodes[i].args, (belowK V T f.nodes).getD a.toNat false = true := by
  intro i hi h a ha
  exact belowGo_closed V f.nodes hok.args f.nodes.length _ (Nat.le_refl _) (by simp) i hi hi h a ha
theorem up_famsK {V T : Nat} {f : Fm} (hok : Ok f V T) (hs : synK V T f = true) {l : List (List Nat)} (hl : famsK V T f.nodes = some l) (s i : Nat) (hi : i < f.nodes.length) (hm : (belowK V T f.nodes).getD (V + i) false = true) :
    up (l.getD i []) s ↔ (valsK V s f.nodes).getD (V + i) false = true :=
  up_famsUp V T s f hok hs _ rfl (below_closed V T f hok) f.nodes.length l (Nat.le_refl _) hl i hi hm
end Go.Proofs.Ytcgfjacidjebaaa
