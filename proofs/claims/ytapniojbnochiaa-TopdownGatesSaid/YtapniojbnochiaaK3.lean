import Derived.Test.YtapniojbnochiaaK2
import Derived.Test.YtapniojbnochiaaK1
import Derived.RegionTactic
import Derived.BigRegion
import Derived.ChangeAlike
import Derived.BigQuiet
import Derived.Deep.QuietTactic
import Derived.Test.YtapniojbnochiaaRows
import Derived.Sort.LotD2
import Derived.Sort.LotA
import Derived.Shelf.SlSortCmp.PdqK
import Derived.Test.YtapniojbnochiaaProg
import Derived.Lib.Hide
/-
  Plain: the values of a formula's arguments; what the families say of them.
-/
namespace Go.Proofs.Ytapniojbnochiaa

/-- How many of the arguments are true. -/
def trueN (vals : List Bool) : List Int → Nat
  | [] => 0
  | a :: l => (if vals.getD a.toNat false then 1 else 0) + trueN vals l
def nodeV (kind k : Int) (t m : Nat) : Bool :=
  if kind = 0 then k == 1 else if kind = 1 then t == 0 else if kind = 2 then t == m else if kind = 3 then decide (0 < t) else if kind = 4 then decide (k ≤ (t : Int)) else t % 2 == 1
/-- The values of the events, then of the first k nodes. -/
def valsUp (V s : Nat) (nodes : List Nd) : Nat → List Bool
  | 0 => (List.range V).map fun i => s.testBit i
  | k + 1 => valsUp V s nodes k ++ [nodeV (nodes.getD k noNd).kind (nodes.getD k noNd).k (trueN (valsUp V s nodes k) (nodes.getD k noNd).args) (nodes.getD k noNd).args.length]
def valsK (V s : Nat) (nodes : List Nd) : List Bool := valsUp V s nodes nodes.length
theorem len_valsUp (V s : Nat) (nodes : List Nd) (k : Nat) : (valsUp V s nodes k).length = V + k := by
  induction k with
  | zero => simp [valsUp]
  | succ k ih => unfold valsUp; simp [ih]; omega
theorem valsUp_get (V s : Nat) (nodes : List Nd) (j : Nat) : ∀ k i, i < V + j → j ≤ k → (valsUp V s nodes k).getD i false = (valsUp V s nodes j).getD i false := by
  intro k
  induction k with
  | zero => intro i hi hj; have : j = 0 := by omega
            subst this; rfl
  | succ k ih =>
    intro i hi hj
    by_cases e : j = k + 1
    · subst e; rfl
    · rw [← ih i hi (by omega)]
      show (valsUp V s nodes k ++ _).getD i false = _
      rw [List.getD_eq_getElem?_getD, List.getElem?_append_left (by rw [len_valsUp]; omega), ← List.getD_eq_getElem?_getD]
theorem valsUp_event (V s : Nat) (nodes : List Nd) (k i : Nat) (hi : i < V) : (valsUp V s nodes k).getD i false = s.testBit i := by
  rw [valsUp_get V s nodes 0 k i (by omega) (by omega)]
  simp [valsUp, List.getD_eq_getElem?_getD, hi]
theorem trueN_append (vals : List Bool) (a b : List Int) : trueN vals (a ++ b) = trueN vals a + trueN vals b := by
  induction a with
  | nil => simp [trueN]
  | cons x a ih => simp [trueN, ih]; omega
theorem trueN_le (vals : List Bool) (a : List Int) : trueN vals a ≤ a.length := by
  induction a with
  | nil => simp [trueN]
  | cons x a ih => simp only [trueN, List.length_cons]; split <;> omega
theorem trueN_congr (v1 v2 : List Bool) (a : List Int) (h : ∀ x ∈ a, v1.getD x.toNat false = v2.getD x.toNat false) : trueN v1 a = trueN v2 a := by
  induction a with
  | nil => rfl
  | cons x a ih => simp only [trueN]; rw [h x (List.mem_cons_self ..), ih fun y hy => h y (List.mem_cons_of_mem _ hy)]
/-- How many families have a set inside s. -/
noncomputable def upN (s : Nat) : List (List Nat) → Nat
  | [] => 0
  | f :: l => (open Classical in if up f s then 1 else 0) + upN s l
theorem upN_append (s : Nat) (a b : List (List Nat)) : upN s (a ++ b) = upN s a + upN s b := by
  induction a with
  | nil => simp [upN]
  | cons x a ih => simp [upN, ih]; omega
theorem upN_le (s : Nat) (a : List (List Nat)) : upN s a ≤ a.length := by
  induction a with
  | nil => simp [upN]
  | cons x a ih => simp only [upN, List.length_cons]; split <;> omega
theorem upN_pos (s : Nat) (a : List (List Nat)) : 0 < upN s a ↔ ∃ f ∈ a, up f s := by
  induction a with
  | nil => simp [upN]
  | cons x a ih =>
    simp only [upN, List.mem_cons]
    by_cases h : up x s
    · rw [if_pos h]; exact ⟨fun _ => ⟨x, .inl rfl, h⟩, fun _ => by omega⟩
    · rw [if_neg h, Nat.zero_add, ih]
      exact ⟨fun ⟨f, hf, h1⟩ => ⟨f, .inr hf, h1⟩, fun ⟨f, hf, h1⟩ => hf.elim (fun e => absurd (e ▸ h1) h) fun hf => ⟨f, hf, h1⟩⟩
theorem upN_all (s : Nat) (a : List (List Nat)) : upN s a = a.length ↔ ∀ f ∈ a, up f s := by
  induction a with
  | nil => simp [upN]
  | cons x a ih =>
    simp only [upN, List.length_cons, List.mem_cons]
    have := upN_le s a
    by_cases h : up x s
    · rw [if_pos h]
      constructor
      · intro e f hf
        rcases hf with rfl | hf
        · exact h
        · exact ih.1 (by omega) f hf
      · intro e
        have := ih.2 fun f hf => e f (.inr hf)
        omega
    · rw [if_neg h]
      constructor
      · intro e; omega
      · intro e; exact absurd (e x (.inl rfl)) h
/-- The rows of a vote: place j holds "at least j of the arguments so far". -/
theorem up_voteUp (arg : List Nat) (t : List (List Nat)) (s c : Nat) (ht : ∀ j, j < t.length → (up (t.getD j []) s ↔ j ≤ c)) : ∀ m acc, m < t.length → voteUp arg t m = some acc → ∀ j, j < acc.length → (up (acc.getD j []) s ↔ j ≤ c + upN s [arg]) := by
  intro m
  induction m with
  | zero =>
    intro acc _ h j hj
    cases h
    have : j = 0 := by simp at hj; omega
    subst this
    exact ⟨fun _ => by omega, fun _ => up_zero s⟩
  | succ m ih =>
    intro acc hm h j hj
    unfold voteUp at h
    cases h1 : voteUp arg t m with
    | none => rw [h1] at h; cases h
    | some a =>
      rw [h1] at h
      simp only [Option.bind_some] at h
      have hal := len_voteUp arg t m a h1
      cases h2 : nextAt arg t m with
      | none => rw [h2] at h; cases h
      | some x =>
        rw [h2] at h
        cases h
        by_cases hja : j < a.length
        · rw [List.getD_eq_getElem?_getD, List.getElem?_append_left hja, ← List.getD_eq_getElem?_getD]
          exact ih a (by omega) h1 j hja
        · have e : j = m + 1 := by simp at hj; omega
          subst e
          rw [List.getD_eq_getElem?_getD, List.getElem?_append_right (by omega), hal, Nat.sub_self]
          show up x s ↔ _
          unfold nextAt at h2
          cases h3 : productK arg (t.getD m []) with
          | none => rw [h3] at h2; cases h2
          | some p =>
            rw [h3] at h2
            rw [up_plusK h2, up_productK h3, ht m (by omega), ht (m + 1) hm]
            simp only [upN]
            by_cases hu : up arg s
            · rw [if_pos hu]
              constructor
              · rintro (⟨_, h⟩ | h) <;> omega
              · intro h; exact .inl ⟨hu, by omega⟩
            · rw [if_neg hu]
              constructor
              · rintro (⟨h, _⟩ | h)
                · exact absurd h hu
                · omega
              · intro h; exact .inr (by omega)
theorem up_voteDown (k s : Nat) (args : List (List Nat)) : ∀ q t c r, q ≤ args.length → t.length = k + 1 → (∀ j, j < t.length → (up (t.getD j []) s ↔ j ≤ c)) → voteDown k args q t = some r →
    r.length = k + 1 ∧ ∀ j, j < r.length → (up (r.getD j []) s ↔ j ≤ c + upN s (args.take q)) := by
  intro q
  induction q with
  | zero => intro t c r _ hl ht h; cases h; exact ⟨hl, fun j hj => by simpa [upN] using ht j hj⟩
  | succ q ih =>
    intro t c r hq hl ht h
    unfold voteDown at h
    cases h1 : voteUp (args.getD q []) t k with
    | none => rw [h1] at h; cases h
    | some a =>
      rw [h1] at h
      have hal := len_voteUp _ t k a h1
      have h2 := ih a (c + upN s [args.getD q []]) r (by omega) hal (up_voteUp _ t s c ht k a (by omega) h1) h
      refine ⟨h2.1, fun j hj => ?_⟩
      rw [h2.2 j hj, List.take_succ_eq_append_getElem (by omega), upN_append, show args.getD q [] = args[q] by simp [List.getD_eq_getElem?_getD, show q < args.length by omega]]
      omega
theorem up_voteK {args : List (List Nat)} {k : Nat} {l : List Nat} (h : voteK args k = some l) (s : Nat) : up l s ↔ k ≤ upN s args := by
  unfold voteK at h
  cases h1 : voteDown k args args.length ([0] :: List.replicate k []) with
  | none => rw [h1] at h; cases h
  | some r =>
    rw [h1] at h
    cases h
    obtain ⟨h2, h3⟩ := up_voteDown k s args args.length _ 0 r (Nat.le_refl _) (by simp) (by
      intro j hj
      cases j with
      | zero => exact ⟨fun _ => by omega, fun _ => up_zero s⟩
      | succ j =>
        have : ([0] :: List.replicate k ([] : List Nat)).getD (j + 1) [] = [] := by
          rw [List.getD_eq_getElem?_getD]
          simp at hj ⊢
          simp [hj]
        rw [this]
        exact ⟨fun h => absurd h (up_nil s), fun h => by omega⟩) h1
    rw [h3 k (by omega), List.take_length]
    simp
/-- A node's family says its value. -/
theorem up_nodeK {kind k : Int} {fams : List (List Nat)} {l : List Nat} (h : nodeK kind k fams = some l) (hk : kind = 0 ∨ kind = 2 ∨ kind = 3 ∨ kind = 4) (h4 : kind = 4 → 0 ≤ k) (s : Nat) : up l s ↔ nodeV kind k (upN s fams) fams.length = true := by
  unfold nodeK at h
  unfold nodeV
  rcases hk with rfl | rfl | rfl | rfl
  · simp only [if_true] at h ⊢
    by_cases e : k = 1
    · rw [if_pos e] at h; cases h; simp [e, up_zero]
    · rw [if_neg e] at h; cases h; simp [e, up_nil]
  · simp only [show ¬ (2 : Int) = 0 by decide, show ¬ (2 : Int) = 3 by decide, show ¬ (2 : Int) = 1 by decide, if_true, if_false] at h ⊢
    rw [up_foldAnd fams s [0] l h, beq_iff_eq, upN_all]
    simp [up_zero]
  · simp only [show ¬ (3 : Int) = 0 by decide, show ¬ (3 : Int) = 2 by decide, show ¬ (3 : Int) = 1 by decide, if_true, if_false] at h ⊢
    rw [up_foldOr fams s [] l h, decide_eq_true_eq, upN_pos]
    simp [up_nil]
  · simp only [show ¬ (4 : Int) = 0 by decide, show ¬ (4 : Int) = 2 by decide, show ¬ (4 : Int) = 1 by decide, show ¬ (4 : Int) = 3 by decide, if_true, if_false] at h ⊢
    rw [up_voteK h, decide_eq_true_eq]
    have := h4 rfl
    omega
theorem pow_sub (Y s : Nat) : subN (2 ^ Y) s = s.testBit Y := by
  rw [Bool.eq_iff_iff, subN_iff]
  constructor
  · intro h; exact h Y (by simp)
  · intro h i hi
    simp [Nat.testBit_two_pow] at hi
    subst hi
    exact h
/-- The families of the nodes that are marked say their values. -/
theorem up_famsUp (V T s : Nat) (f : Fm) (hok : Ok f V T) (hs : synK V T f = true) (mark : List Bool) (hmark : mark = belowK V T f.nodes)
    (hcl : ∀ i (hi : i < f.nodes.length), mark.getD (V + i) false = true → ∀ a ∈ f.nodes[i].args, mark.getD a.toNat false = true) :
    ∀ k out, k ≤ f.nodes.length → famsUp V mark f.nodes k = some out → ∀ i, i < k → mark.getD (V + i) false = true → (up (out.getD i []) s ↔ (valsUp V s f.nodes k).getD (V + i) false = true) := by
  intro k
  induction k with
  | zero => intro out _ _ i hi; omega
  | succ k ih =>
    intro out hk h i hi hm
    unfold famsUp at h
    cases h1 : famsUp V mark f.nodes k with
    | none => rw [h1] at h; cases h
    | some o =>
      rw [h1] at h
      simp only [Option.bind_some, famStep] at h
      have hkx : k < f.nodes.length := by omega
      have hnd : f.nodes.getD k noNd = f.nodes[k] := by simp [List.getD_eq_getElem?_getD, hkx]
      have hol := len_famsUp V mark f.nodes k o h1
      have hold : ∀ i, i < k → mark.getD (V + i) false = true → (up (o.getD i []) s ↔ (valsUp V s f.nodes (k + 1)).getD (V + i) false = true) := fun i hi hm => by
        rw [valsUp_get V s f.nodes k (k + 1) (V + i) (by omega) (by omega)]
        exact ih o (by omega) h1 i hi hm
      rw [hnd] at h
      by_cases e : i = k
      · subst e
        rw [if_pos hm] at h
        cases h2 : nodeK f.nodes[i].kind f.nodes[i].k (f.nodes[i].args.map (famArg V o)) with
        | none => rw [h2] at h; cases h
        | some l =>
          rw [h2] at h
          cases h
          rw [List.getD_eq_getElem?_getD, List.getElem?_set_self (by omega)]
          show up l s ↔ _
          have hval : (valsUp V s f.nodes (i + 1)).getD (V + i) false = nodeV f.nodes[i].kind f.nodes[i].k (trueN (valsUp V s f.nodes i) f.nodes[i].args) f.nodes[i].args.length := by
            show (valsUp V s f.nodes i ++ _).getD (V + i) false = _
            rw [List.getD_eq_getElem?_getD, List.getElem?_append_right (by rw [len_valsUp]; omega), len_valsUp, Nat.sub_self, hnd]
            rfl
          have hcnt : ∀ bs : List Int, (∀ a ∈ bs, (0 ≤ a ∧ a < (V : Int) + i) ∧ mark.getD a.toNat false = true) → upN s (bs.map (famArg V o)) = trueN (valsUp V s f.nodes i) bs := by
            intro bs
            induction bs with
            | nil => intro _; rfl
            | cons a bs iha =>
              intro ha
              have h3 := ha a (List.mem_cons_self ..)
              simp only [List.map_cons, upN, trueN]
              rw [iha fun x hx => ha x (List.mem_cons_of_mem _ hx)]
              congr 1
              have key : up (famArg V o a) s ↔ (valsUp V s f.nodes i).getD a.toNat false = true := by
                obtain ⟨A, rfl⟩ := Int.eq_ofNat_of_zero_le h3.1.1
                simp only [Int.toNat_natCast] at h3 ⊢
                unfold famArg
                by_cases hAV : A < V
                · rw [if_pos (by omega), valsUp_event V s f.nodes i A hAV]
                  constructor
                  · rintro ⟨t, ht, hts⟩
                    simp at ht
                    subst ht
                    rw [← pow_sub]; exact hts
                  · intro hb
                    exact ⟨2 ^ A, by simp, by rw [pow_sub]; exact hb⟩
                · rw [if_neg (by omega), show ((A : Int) - (V : Int)).toNat = A - V by omega]
                  have := ih o (by omega) h1 (A - V) (by omega) (by rw [show V + (A - V) = A by omega]; exact h3.2)
                  rw [show V + (A - V) = A by omega] at this
                  exact this
              by_cases hu : up (famArg V o a) s
              · rw [if_pos hu, if_pos (key.1 hu)]
              · rw [if_neg hu, if_neg (fun h => hu (key.2 h))]
          have hc := hcnt f.nodes[i].args (fun a ha => ⟨hok.args i hkx a ha, hcl i hkx hm a ha⟩)
          rw [up_nodeK h2 (by
              have := kind_mono hok hs i hkx (by rw [← hmark]; exact hm)
              omega) (fun h4 => by
              have := hok.arity i hkx
              unfold chkK at this
              rw [if_neg (by omega), if_pos h4] at this
              split at this
              · omega
              · cases this) s, hval, hc, List.length_map]
      · split at h
        · cases h2 : nodeK f.nodes[k].kind f.nodes[k].k (f.nodes[k].args.map (famArg V o)) with
          | none => rw [h2] at h; cases h
          | some l =>
            rw [h2] at h
            cases h
            rw [List.getD_eq_getElem?_getD, List.getElem?_set_ne (by omega), ← List.getD_eq_getElem?_getD]
            exact hold i (by omega) hm
        · cases h; exact hold i (by omega) hm
/-- Nothing is found for a node that is not marked. -/
theorem fams_unmarked (V : Nat) (mark : List Bool) (nodes : List Nd) : ∀ k out, famsUp V mark nodes k = some out → ∀ i, mark.getD (V + i) false = false → out.getD i [] = [] := by
  intro k
  induction k with
  | zero =>
    intro out h i _
    cases h
    rw [List.getD_eq_getElem?_getD]
    by_cases hi : i < nodes.length
    · simp [hi]
    · simp [hi]
  | succ k ih =>
    intro out h i hm
    unfold famsUp at h
    cases h1 : famsUp V mark nodes k with
    | none => rw [h1] at h; cases h
    | some o =>
      rw [h1] at h
      simp only [Option.bind_some, famStep] at h
      split at h
      · rename_i hmk
        cases h2 : nodeK (nodes.getD k noNd).kind (nodes.getD k noNd).k ((nodes.getD k noNd).args.map (famArg V o)) with
        | none => rw [h2] at h; cases h
        | some l =>
          rw [h2] at h
          cases h
          have hne : k ≠ i := fun e => by subst e; rw [hmk] at hm; cases hm
          rw [List.getD_eq_getElem?_getD, List.getElem?_set_ne hne, ← List.getD_eq_getElem?_getD]
          exact ih o h1 i hm
      · cases h; exact ih _ h1 i hm
/-- What is below a marked node is marked. -/
theorem markAll_keep (args : List Int) : ∀ (m : List Bool) (i : Nat), m.getD i false = true → (markAll m args).getD i false = true := by
  induction args with
  | nil => intro m i h; exact h
  | cons a l ih =>
    intro m i h
    refine ih (m.set a.toNat true) i ?_
    rw [List.getD_eq_getElem?_getD] at h ⊢
    by_cases e : a.toNat = i
    · subst e
      by_cases hl : a.toNat < m.length
      · rw [List.getElem?_set_self hl]; rfl
      · rw [List.getElem?_eq_none (by omega)] at h; cases h
    · rw [List.getElem?_set_ne e]; exact h
theorem markAll_mem (args : List Int) : ∀ (m : List Bool) (a : Int), a ∈ args → a.toNat < m.length → (markAll m args).getD a.toNat false = true := by
  induction args with
  | nil => intro m a h; cases h
  | cons x l ih =>
    intro m a ha hl
    rcases List.mem_cons.1 ha with e | e
    · subst e
      refine markAll_keep l (m.set a.toNat true) a.toNat ?_
      rw [List.getD_eq_getElem?_getD, List.getElem?_set_self hl]; rfl
    · exact ih (m.set x.toNat true) a e (by simpa using hl)
theorem markAll_other (args : List Int) : ∀ (m : List Bool) (i : Nat), (∀ a ∈ args, a.toNat ≠ i) → (markAll m args).getD i false = m.getD i false := by
  induction args with
  | nil => intro m i _; rfl
  | cons a l ih =>
    intro m i h
    rw [show markAll m (a :: l) = markAll (m.set a.toNat true) l from rfl, ih (m.set a.toNat true) i fun x hx => h x (List.mem_cons_of_mem _ hx)]
    rw [List.getD_eq_getElem?_getD, List.getElem?_set_ne (h a (List.mem_cons_self ..)), ← List.getD_eq_getElem?_getD]
theorem belowGo_keep (V : Nat) (nodes : List Nd) : ∀ k m i, m.getD i false = true → (belowGo V nodes k m).getD i false = true := by
  intro k
  induction k with
  | zero => intro m i h; exact h
  | succ k ih =>
    intro m i h
    unfold belowGo
    refine ih _ i ?_
    split
    · exact markAll_keep _ _ _ h
    · exact h
theorem belowGo_same (V : Nat) (nodes : List Nd) (hargs : ∀ i (h : i < nodes.length), ∀ a ∈ nodes[i].args, 0 ≤ a ∧ a < (V : Int) + i) : ∀ k m i, k ≤ nodes.length → k ≤ i → (belowGo V nodes k m).getD (V + i) false = m.getD (V + i) false := by
  intro k
  induction k with
  | zero => intro m i _ _; rfl
  | succ k ih =>
    intro m i hk hi
    unfold belowGo
    rw [ih _ i (by omega) (by omega)]
    split
    · refine markAll_other _ _ _ fun a ha e => ?_
      rw [show nodes.getD k noNd = nodes[k] by simp [List.getD_eq_getElem?_getD, show k < nodes.length by omega]] at ha
      have := hargs k (by omega) a ha
      omega
    · rfl
theorem belowGo_closed (V : Nat) (nodes : List Nd) (hargs : ∀ i (h : i < nodes.length), ∀ a ∈ nodes[i].args, 0 ≤ a ∧ a < (V : Int) + i) : ∀ k m, k ≤ nodes.length → m.length = V + nodes.length →
    ∀ i (_ : i < k) (h : i < nodes.length), (belowGo V nodes k m).getD (V + i) false = true → ∀ a ∈ nodes[i].args, (belowGo V nodes k m).getD a.toNat false = true := by
  intro k
  induction k with
  | zero => intro m _ _ i hi; omega
  | succ k ih =>
    intro m hk hm i hi h hmark a ha
    have hnd : nodes.getD k noNd = nodes[k] := by simp [List.getD_eq_getElem?_getD, show k < nodes.length by omega]
    unfold belowGo at hmark ⊢
    by_cases e : i = k
    · subst e
      have h2 := belowGo_same V nodes hargs i (if m.getD (V + i) false then markAll m (nodes.getD i noNd).args else m) i (by omega) (Nat.le_refl _)
      rw [h2] at hmark
      have hmi : m.getD (V + i) false = true := by
        by_cases hb : m.getD (V + i) false = true
        · exact hb
        · rw [if_neg hb] at hmark; exact hmark
      refine belowGo_keep V nodes i _ _ ?_
      rw [if_pos hmi, hnd]
      have := hargs i h a ha
      exact markAll_mem _ m a ha (by omega)
    · exact ih (if m.getD (V + k) false then markAll m (nodes.getD k noNd).args else m) (by omega) (by split; rw [len_markAll, hm]; exact hm) i (by omega) h hmark a ha
theorem below_closed (V T : Nat) (f : Fm) (hok : Ok f V T) : ∀ i (hi : i < f.nodes.length), (belowK V T f.nodes).getD (V + i) false = true → ∀ a ∈ f.nodes[i].args, (belowK V T f.nodes).getD a.toNat false = true := by
  intro i hi h a ha
  exact belowGo_closed V f.nodes hok.args f.nodes.length _ (Nat.le_refl _) (by simp) i hi hi h a ha
theorem up_famsK {V T : Nat} {f : Fm} (hok : Ok f V T) (hs : synK V T f = true) {l : List (List Nat)} (hl : famsK V T f.nodes = some l) (s i : Nat) (hi : i < f.nodes.length) (hm : (belowK V T f.nodes).getD (V + i) false = true) :
    up (l.getD i []) s ↔ (valsK V s f.nodes).getD (V + i) false = true :=
  up_famsUp V T s f hok hs _ rfl (below_closed V T f hok) f.nodes.length l (Nat.le_refl _) hl i hi hm
end Go.Proofs.Ytapniojbnochiaa

/-
  Plain: a formula in which an event is replaced by a constant, which is node 0; Restrict.
-/
namespace Go.Proofs.Ytapniojbnochiaa

def mvA (V e : Nat) (a : Int) : Int := if a = e then V else if a < V then a else a + 1
def mvN (V e : Nat) (x : Nd) : Nd := ⟨x.kind, x.k, x.args.map (mvA V e)⟩
def mvF (V e : Nat) (k : Int) (f : Fm) (T : Nat) : Fm := ⟨V, ⟨0, k, []⟩ :: f.nodes.map (mvN V e), mvA V e T⟩
theorem mvA_range {V e j : Nat} {a : Int} (h : 0 ≤ a ∧ a < (V : Int) + j) : 0 ≤ mvA V e a ∧ mvA V e a < (V : Int) + (j + 1 : Nat) := by
  unfold mvA; split
  · omega
  · split <;> omega
theorem mvA_inj {V e : Nat} {a b : Int} (h : mvA V e a = mvA V e b) : a = b := by
  unfold mvA at h
  split at h <;> split at h <;> (try split at h) <;> (try split at h) <;> omega
theorem chkNd_mk {b : Int} {x : Nd} (h1 : 0 ≤ x.kind ∧ x.kind ≤ 5) (h2 : argsOk x.kind x.args.length = true) (h3 : ∀ a ∈ x.args, 0 ≤ a ∧ a < b) (h4 : chkK x.kind x.k x.args.length = 0) : chkNd b x = 0 := by
  unfold chkNd
  rw [if_neg (by omega), if_neg (by rw [h2]; simp), if_neg, h4]
  rw [Bool.not_eq_false, List.all_eq_true]
  intro a ha
  exact decide_eq_true (h3 a ha)
theorem mv_chk {V T : Nat} {f : Fm} (hok : Ok f V T) (e : Nat) (k : Int) (hk : k = 0 ∨ k = 1) (hn : f.nodes.length ≤ 100) : chkF (mvF V e k f T) = 0 := by
  have hV := hok.v24
  have hT := hok.tlt
  unfold chkF
  have hlen : (mvF V e k f T).nodes.length = f.nodes.length + 1 := by simp [mvF]
  rw [if_neg (by show ¬ ((V : Int) < 0 ∨ 24 < (V : Int)); omega), if_neg (by rw [hlen]; omega)]
  rw [if_pos]
  · rw [if_pos]
    unfold okArg
    rw [decide_eq_true_eq, hlen]
    show 0 ≤ (V : Int) ∧ 0 ≤ mvA V e T ∧ (mvA V e T < V ∨ mvA V e T - V < _)
    have := mvA_range (V := V) (e := e) (j := f.nodes.length) (a := (T : Int)) (by omega)
    omega
  · refine chkFrom_none _ _ fun j hj => ?_
    cases j with
    | zero => exact chkNd_mk (by simp [mvF]) (by simp [mvF, argsOk]) (by simp [mvF]) (by simp [mvF, chkK, hk])
    | succ j =>
      have hj' : j < f.nodes.length := by rw [hlen] at hj; omega
      have e1 : (mvF V e k f T).nodes[j + 1] = mvN V e f.nodes[j] := by simp [mvF]
      rw [e1]
      refine chkNd_mk (hok.kind j hj') ?_ ?_ ?_
      · show argsOk f.nodes[j].kind (f.nodes[j].args.map _).length = true
        rw [List.length_map]; exact hok.argc j hj'
      · intro a ha
        obtain ⟨x, hx, rfl⟩ := List.mem_map.1 ha
        exact mvA_range (hok.args j hj' x hx)
      · show chkK f.nodes[j].kind f.nodes[j].k (f.nodes[j].args.map _).length = 0
        rw [List.length_map]; exact hok.arity j hj'
theorem mv_ok {V T : Nat} {f : Fm} (hok : Ok f V T) (e : Nat) (k : Int) (hk : k = 0 ∨ k = 1) (hn : f.nodes.length ≤ 100) : Ok (mvF V e k f T) V (mvA V e T).toNat := by
  obtain ⟨V', T', h⟩ := ok_of _ (mv_chk hok e k hk hn)
  have h1 : (V : Int) = (V' : Int) := h.vars
  have h2 : mvA V e T = (T' : Int) := h.top
  obtain rfl : V' = V := by omega
  rw [h2]
  simpa using h
/-- The marks of the moved formula are images of marks. -/
theorem mv_below {V T : Nat} {f : Fm} (hok : Ok f V T) (e : Nat) (k : Int) (he : e < V) : ∀ j (m' m : List Bool), j ≤ f.nodes.length → m.length = V + f.nodes.length →
    (∀ a : Nat, a < V + f.nodes.length → m'.getD (mvA V e a).toNat false = true → m.getD a false = true) →
    ∀ a : Nat, a < V + f.nodes.length → (belowGo V (mvF V e k f T).nodes (j + 1) m').getD (mvA V e a).toNat false = true → (belowGo V f.nodes j m).getD a false = true := by
  intro j
  induction j with
  | zero =>
    intro m' m _ _ h a ha
    unfold belowGo
    have e1 : (mvF V e k f T).nodes.getD 0 noNd = ⟨0, k, []⟩ := by simp [mvF]
    rw [e1]
    have : belowGo V (mvF V e k f T).nodes 0 (if m'.getD (V + 0) false = true then markAll m' [] else m') = m' := by
      show (if m'.getD (V + 0) false = true then m' else m') = m'
      split <;> rfl
    show (belowGo V (mvF V e k f T).nodes 0 (if m'.getD (V + 0) false = true then markAll m' [] else m')).getD (mvA V e a).toNat false = true → m.getD a false = true
    rw [this]
    exact h a ha
  | succ j ih =>
    intro m' m hj hm h a ha
    have hnd : f.nodes.getD j noNd = f.nodes[j] := by simp [List.getD_eq_getElem?_getD, show j < f.nodes.length by omega]
    have hnd' : (mvF V e k f T).nodes.getD (j + 1) noNd = mvN V e f.nodes[j] := by
      simp [mvF, List.getD_eq_getElem?_getD, show j < f.nodes.length by omega]
    show (belowGo V (mvF V e k f T).nodes (j + 1) (if m'.getD (V + (j + 1)) false then markAll m' ((mvF V e k f T).nodes.getD (j + 1) noNd).args else m')).getD (mvA V e a).toNat false = true →
      (belowGo V f.nodes j (if m.getD (V + j) false then markAll m (f.nodes.getD j noNd).args else m)).getD a false = true
    rw [hnd, hnd']
    refine ih _ _ (by omega) (by split; rw [len_markAll, hm]; exact hm) ?_ a ha
    intro b hb hmb
    by_cases hm1 : m'.getD (V + (j + 1)) false = true
    · have hm2 : m.getD (V + j) false = true := by
        refine h (V + j) (by omega) ?_
        rw [show (mvA V e ((V + j : Nat) : Int)).toNat = V + (j + 1) by unfold mvA; rw [if_neg (by omega), if_neg (by omega)]; omega]
        exact hm1
      rw [if_pos hm2]
      rw [if_pos hm1] at hmb
      by_cases hx : ∃ x ∈ f.nodes[j].args, x = (b : Int)
      · obtain ⟨x, hx, rfl⟩ := hx
        have := markAll_mem f.nodes[j].args m (b : Int) hx (by simp; omega)
        simpa using this
      · have hother := markAll_other (mvN V e f.nodes[j]).args m' (mvA V e b).toNat (by
          intro y hy hye
          obtain ⟨x, hx2, rfl⟩ := List.mem_map.1 hy
          have hr := hok.args j (by omega) x hx2
          have h1 := (mvA_range (e := e) hr).1
          have h2 := (mvA_range (V := V) (e := e) (j := f.nodes.length) (a := (b : Int)) (by omega)).1
          exact hx ⟨x, hx2, mvA_inj (V := V) (e := e) (by omega)⟩)
        rw [hother] at hmb
        exact markAll_keep _ _ _ (h b hb hmb)
    · rw [if_neg hm1] at hmb
      have := h b hb hmb
      split
      · exact markAll_keep _ _ _ this
      · exact this
theorem mv_marks {V T : Nat} {f : Fm} (hok : Ok f V T) (e : Nat) (k : Int) (he : e < V) (a : Nat) (ha : a < V + f.nodes.length) (h : (belowK V (mvA V e T).toNat (mvF V e k f T).nodes).getD (mvA V e a).toNat false = true) : (belowK V T f.nodes).getD a false = true := by
  have hT := hok.tlt
  unfold belowK at h ⊢
  have hlen : (mvF V e k f T).nodes.length = f.nodes.length + 1 := by simp [mvF]
  rw [hlen] at h
  refine mv_below hok e k he f.nodes.length _ _ (Nat.le_refl _) (by simp) ?_ a ha h
  intro b hb hm
  have h1 := (mvA_range (V := V) (e := e) (j := f.nodes.length) (a := (b : Int)) (by omega)).1
  have h2 := (mvA_range (V := V) (e := e) (j := f.nodes.length) (a := (T : Int)) (by omega)).1
  by_cases hbT : b = T
  · subst hbT
    rw [List.getD_eq_getElem?_getD, List.getElem?_set_self (by simp; omega)]; rfl
  · have hne : (mvA V e T).toNat ≠ (mvA V e b).toNat := fun hc => hbT (by
      have := mvA_inj (V := V) (e := e) (a := (T : Int)) (b := (b : Int)) (by omega)
      omega)
    rw [List.getD_eq_getElem?_getD, List.getElem?_set_ne hne] at hm
    have : (List.replicate (V + (f.nodes.length + 1)) false)[(mvA V e b).toNat]?.getD false = false := by
      rw [List.getElem?_replicate]; split <;> rfl
    rw [this] at hm
    cases hm
theorem kinds_all (V : Nat) (mark : List Bool) (nodes : List Nd) : ∀ k, k ≤ nodes.length → (∀ i (hi : i < nodes.length), i < k → mark.getD (V + i) false = true → nodes[i].kind ≠ 1 ∧ nodes[i].kind ≠ 5) → monoK (kindsUp V mark nodes k) = true := by
  intro k
  induction k with
  | zero => intro _ _; rfl
  | succ k ih =>
    intro hk h
    have h1 := ih (by omega) fun i hi hik => h i hi (by omega)
    unfold kindsUp
    split
    · rename_i hm
      have := h k (by omega) (by omega) hm
      rw [show nodes.getD k noNd = nodes[k] by simp [List.getD_eq_getElem?_getD, show k < nodes.length by omega]]
      unfold monoK at h1 ⊢
      rw [List.all_append, h1]
      simp [this.1, this.2]
    · exact h1
theorem mv_syn {V T : Nat} {f : Fm} (hok : Ok f V T) (hs : synK V T f = true) (e : Nat) (k : Int) (he : e < V) : synK V (mvA V e T).toNat (mvF V e k f T) = true := by
  unfold synK
  refine kinds_all V _ _ _ (Nat.le_refl _) fun i hi _ hm => ?_
  have hlen : (mvF V e k f T).nodes.length = f.nodes.length + 1 := by simp [mvF]
  cases i with
  | zero => simp [mvF]
  | succ i =>
    have hi' : i < f.nodes.length := by omega
    have e1 : (mvF V e k f T).nodes[i + 1] = mvN V e f.nodes[i] := by simp [mvF]
    rw [e1]
    show f.nodes[i].kind ≠ 1 ∧ f.nodes[i].kind ≠ 5
    have h2 := mv_marks hok e k he (V + i) (by omega) (by
      rw [show (mvA V e ((V + i : Nat) : Int)).toNat = V + (i + 1) by unfold mvA; rw [if_neg (by omega), if_neg (by omega)]; omega]
      exact hm)
    have := kind_mono hok hs i hi' h2
    omega
/-- s with the bit e put to b. -/
def putBit (s e : Nat) (b : Bool) : Nat := if b then s ||| 2 ^ e else sdiff s (2 ^ e)
theorem putBit_bit (s e : Nat) (b : Bool) (i : Nat) : (putBit s e b).testBit i = if i = e then b else s.testBit i := by
  unfold putBit sdiff
  cases b with
  | true =>
    simp only [if_true, Nat.testBit_or, Nat.testBit_two_pow]
    by_cases h : i = e
    · subst h; simp
    · rw [if_neg h]; simp [Ne.symm h]
  | false =>
    simp only [Bool.false_eq_true, if_false, Nat.testBit_xor, Nat.testBit_and, Nat.testBit_two_pow]
    by_cases h : i = e
    · subst h; simp
    · rw [if_neg h]; simp [Ne.symm h]
theorem getD_snoc (l : List Bool) (x : Bool) (i : Nat) (h : i = l.length) : (l ++ [x]).getD i false = x := by subst h; simp [List.getD_eq_getElem?_getD]
theorem mv_vals {V T : Nat} {f : Fm} (hok : Ok f V T) (e : Nat) (k : Int) (he : e < V) (s : Nat) : ∀ j, j ≤ f.nodes.length → ∀ a : Nat, a < V + j →
    (valsUp V s (mvF V e k f T).nodes (j + 1)).getD (mvA V e a).toNat false = (valsUp V (putBit s e (k == 1)) f.nodes j).getD a false := by
  intro j
  induction j with
  | zero =>
    intro _ a ha
    have haV : a < V := by omega
    rw [valsUp_event V _ f.nodes 0 a haV, putBit_bit]
    by_cases h : a = e
    · subst h
      rw [if_pos rfl, show (mvA V a (a : Int)).toNat = V by simp [mvA]]
      show (valsUp V s (mvF V a k f T).nodes 0 ++ [_]).getD V false = _
      rw [List.getD_eq_getElem?_getD, List.getElem?_append_right (by rw [len_valsUp]; omega), len_valsUp]
      simp [mvF, nodeV]
    · rw [if_neg h, show (mvA V e (a : Int)).toNat = a by unfold mvA; rw [if_neg (by omega), if_pos (by omega)]; omega]
      exact valsUp_event V s _ 1 a haV
  | succ j ih =>
    intro hj a ha
    have hjl : j < f.nodes.length := by omega
    by_cases haj : a < V + j
    · rw [valsUp_get V _ f.nodes j (j + 1) a haj (by omega), ← ih (by omega) a haj]
      have := (mvA_range (V := V) (e := e) (j := j) (a := (a : Int)) (by omega))
      exact valsUp_get V s _ (j + 1) (j + 1 + 1) _ (by omega) (by omega)
    · have e1 : a = V + j := by omega
      subst e1
      rw [show (mvA V e ((V + j : Nat) : Int)).toNat = V + (j + 1) by unfold mvA; rw [if_neg (by omega), if_neg (by omega)]; omega]
      show (valsUp V s (mvF V e k f T).nodes (j + 1) ++ [_]).getD (V + (j + 1)) false = (valsUp V (putBit s e (k == 1)) f.nodes j ++ [_]).getD (V + j) false
      rw [getD_snoc _ _ _ (len_valsUp V s (mvF V e k f T).nodes (j + 1)).symm, getD_snoc _ _ _ (len_valsUp V (putBit s e (k == 1)) f.nodes j).symm]
      have hnd : f.nodes.getD j noNd = f.nodes[j] := by simp [List.getD_eq_getElem?_getD, hjl]
      have hnd' : (mvF V e k f T).nodes.getD (j + 1) noNd = mvN V e f.nodes[j] := by simp [mvF, List.getD_eq_getElem?_getD, hjl]
      rw [hnd, hnd']
      have hcnt : ∀ bs : List Int, (∀ b ∈ bs, 0 ≤ b ∧ b < (V : Int) + j) → trueN (valsUp V s (mvF V e k f T).nodes (j + 1)) (bs.map (mvA V e)) = trueN (valsUp V (putBit s e (k == 1)) f.nodes j) bs := by
        intro bs
        induction bs with
        | nil => intro _; rfl
        | cons b bs ihb =>
          intro hb
          have h1 := hb b (List.mem_cons_self ..)
          simp only [List.map_cons, trueN]
          obtain ⟨B, rfl⟩ := Int.eq_ofNat_of_zero_le h1.1
          rw [ihb fun x hx => hb x (List.mem_cons_of_mem _ hx), ih (by omega) B (by omega)]
          simp
      simp only [mvN, hcnt f.nodes[j].args (hok.args j hjl), List.length_map]
/-- What Cuts answers says the value of Top. -/
theorem up_cutsK {V T : Nat} {f : Fm} (hok : Ok f V T) (hs : synK V T f = true) {l : List (List Nat)} (hl : famsK V T f.nodes = some l) (s : Nat) :
    up (if T < V then [2 ^ T] else l.getD (T - V) []) s ↔ (valsK V s f.nodes).getD T false = true := by
  by_cases h : T < V
  · rw [if_pos h]
    unfold valsK
    rw [valsUp_event V s f.nodes _ T h, ← pow_sub]
    constructor
    · rintro ⟨t, ht, h1⟩; simp at ht; subst ht; exact h1
    · intro h1; exact ⟨_, by simp, h1⟩
  · rw [if_neg h]
    have hT := hok.tlt
    have := up_famsK hok hs hl s (T - V) (by omega) (by
      rw [show V + (T - V) = T by omega]
      unfold belowK
      refine belowGo_keep V f.nodes _ _ T ?_
      rw [List.getD_eq_getElem?_getD, List.getElem?_set_self (by simp; omega)]; rfl)
    rw [show V + (T - V) = T by omega] at this
    exact this
theorem good_cuts {V T : Nat} {nodes : List Nd} {l : List (List Nat)} (hl : famsK V T nodes = some l) : Good (if T < V then [2 ^ T] else l.getD (T - V) []) := by
  split
  · exact good_one _
  · exact good_getD (good_famsUp V _ nodes nodes.length l hl) _
/-- Restrict. -/
def restrictK (l : List Nat) (fl wk : Nat) : List Nat := minK ((l.filter fun s => s &&& wk == 0).map fun s => sdiff s fl)
theorem sdiff_bit (a b i : Nat) : (sdiff a b).testBit i = (a.testBit i && !b.testBit i) := by
  unfold sdiff
  rw [Nat.testBit_xor, Nat.testBit_and]
  cases a.testBit i <;> cases b.testBit i <;> rfl
theorem restrict_failed (l : List Nat) (e s : Nat) : up (restrictK l (2 ^ e) 0) s ↔ up l (putBit s e true) := by
  unfold restrictK
  rw [up_minK]
  unfold up
  constructor
  · rintro ⟨t, ht, h⟩
    obtain ⟨x, hx, rfl⟩ := List.mem_map.1 ht
    refine ⟨x, (List.mem_filter.1 hx).1, subN_iff.2 fun i hi => ?_⟩
    rw [putBit_bit]
    split
    · rfl
    · rename_i hne
      refine subN_iff.1 h i ?_
      rw [sdiff_bit, hi, Nat.testBit_two_pow]
      simp [Ne.symm hne]
  · rintro ⟨x, hx, h⟩
    refine ⟨sdiff x (2 ^ e), List.mem_map.2 ⟨x, List.mem_filter.2 ⟨hx, by simp⟩, rfl⟩, subN_iff.2 fun i hi => ?_⟩
    rw [sdiff_bit, Nat.testBit_two_pow] at hi
    simp at hi
    have := subN_iff.1 h i hi.1
    rw [putBit_bit, if_neg (Ne.symm hi.2)] at this
    exact this
theorem restrict_working (l : List Nat) (e s : Nat) : up (restrictK l 0 (2 ^ e)) s ↔ up l (putBit s e false) := by
  unfold restrictK
  rw [up_minK]
  unfold up
  have hz : ∀ x : Nat, sdiff x 0 = x := fun x => by unfold sdiff; simp
  have hb : ∀ x : Nat, (x &&& 2 ^ e == 0) = !x.testBit e := by
    intro x
    rw [Bool.eq_iff_iff]
    simp only [beq_iff_eq, Bool.not_eq_true']
    constructor
    · intro h
      have : (x &&& 2 ^ e).testBit e = false := by rw [h]; simp
      simpa using this
    · intro h
      apply Nat.eq_of_testBit_eq
      intro i
      rw [Nat.testBit_and, Nat.testBit_two_pow]
      by_cases hi : e = i
      · subst hi; simp [h]
      · simp [hi]
  constructor
  · rintro ⟨t, ht, h⟩
    obtain ⟨x, hx, rfl⟩ := List.mem_map.1 ht
    rw [hz] at h
    obtain ⟨h1, h2⟩ := List.mem_filter.1 hx
    rw [hb] at h2
    refine ⟨x, h1, subN_iff.2 fun i hi => ?_⟩
    rw [putBit_bit, if_neg]
    · exact subN_iff.1 h i hi
    · intro hie; subst hie; rw [hi] at h2; cases h2
  · rintro ⟨x, hx, h⟩
    have hxe : x.testBit e = false := by
      cases hq : x.testBit e with
      | false => rfl
      | true =>
        have := subN_iff.1 h e hq
        rw [putBit_bit, if_pos rfl] at this
        cases this
    refine ⟨sdiff x 0, List.mem_map.2 ⟨x, List.mem_filter.2 ⟨hx, by rw [hb, hxe]; rfl⟩, rfl⟩, subN_iff.2 fun i hi => ?_⟩
    rw [hz] at hi
    have := subN_iff.1 h i hi
    rw [putBit_bit] at this
    split at this
    · cases this
    · exact this
/-- With the event replaced, the cut sets are the restricted ones. -/
theorem mv_cuts {V T : Nat} {f : Fm} (hok : Ok f V T) (hs : synK V T f = true) (e : Nat) (he : e < V) (hn : f.nodes.length ≤ 100) (k : Int) (hk : k = 0 ∨ k = 1) {l l' : List (List Nat)} (hl : famsK V T f.nodes = some l)
    (hl' : famsK V (mvA V e T).toNat (mvF V e k f T).nodes = some l') :
    (if (mvA V e T).toNat < V then [2 ^ (mvA V e T).toNat] else l'.getD ((mvA V e T).toNat - V) []) = restrictK (if T < V then [2 ^ T] else l.getD (T - V) []) (if k = 1 then 2 ^ e else 0) (if k = 1 then 0 else 2 ^ e) := by
  have hok' := mv_ok hok e k hk hn
  have hs' := mv_syn hok hs e k he
  refine can_eq (good_cuts hl').1 (by unfold restrictK; exact can_minK _) fun s => ?_
  have hT := hok.tlt
  have hlen : (mvF V e k f T).nodes.length = f.nodes.length + 1 := by simp [mvF]
  rw [up_cutsK hok' hs' hl' s]
  unfold valsK
  rw [hlen, mv_vals hok e k he s f.nodes.length (Nat.le_refl _) T hT]
  have h1 := up_cutsK hok hs hl (putBit s e (k == 1))
  unfold valsK at h1
  rw [← h1]
  rcases hk with rfl | rfl
  · simp only [show ¬ (0 : Int) = 1 by decide, if_false, show ((0 : Int) == 1) = false by decide]
    exact (restrict_working _ e s).symm
  · simp only [if_true, show ((1 : Int) == 1) = true by decide]
    exact (restrict_failed _ e s).symm
end Go.Proofs.Ytapniojbnochiaa

/-
  Plain: rows of conditions as masks (an event is its bit, node i is bit 24 + i); the procedure of the top-down search.
-/
namespace Go.Proofs.Ytapniojbnochiaa

/-- The condition of an argument. -/
def cond (V : Nat) (a : Int) : Nat := if a < V then 2 ^ a.toNat else 2 ^ (24 + (a - V).toNat)
def withC (V r : Nat) (a : Int) : Nat := r ||| cond V a
/-- A row for each choice of k of the arguments. -/
def chooseK (V : Nat) : List Int → Nat → Nat → List Nat
  | [], k, r => if k = 0 then [r] else []
  | a :: l, k, r => if k = 0 then [r] else chooseK V l (k - 1) (withC V r a) ++ chooseK V l k r
/-- What node i is replaced by in a row that has it. -/
def expandK (V : Nat) (x : Nd) (i r : Nat) : List Nat :=
  if x.kind = 0 then (if x.k = 1 then [sdiff r (2 ^ (24 + i))] else [])
  else if x.kind = 2 then [x.args.foldl (withC V) (sdiff r (2 ^ (24 + i)))]
  else if x.kind = 3 then x.args.map (withC V (sdiff r (2 ^ (24 + i))))
  else chooseK V x.args x.k.toNat (sdiff r (2 ^ (24 + i)))
def expR (V : Nat) (x : Nd) (i r : Nat) : List Nat := if r.testBit (24 + i) then expandK V x i r else [r]
def expK (V : Nat) (x : Nd) (i : Nat) (R : List Nat) : List Nat := R.flatMap (expR V x i)
/-- From the nodes below i on: the last rows, and how many there were behind each expansion. -/
def runK (V : Nat) (nodes : List Nd) : Nat → List Nat → Option (List Nat × List Nat)
  | 0, R => some (R, [])
  | i + 1, R =>
    if R.any (fun r => r.testBit (24 + i)) = true then
      if (expK V (nodes.getD i noNd) i R).length ≤ 4096 then
        if (minK (expK V (nodes.getD i noNd) i R)).length ≤ 1024 then (runK V nodes i (minK (expK V (nodes.getD i noNd) i R))).map fun p => (p.1, (minK (expK V (nodes.getD i noNd) i R)).length :: p.2)
        else none
      else none
    else runK V nodes i R
def topK (V T : Nat) (nodes : List Nd) : Option (List Nat × List Nat) := runK V nodes nodes.length [cond V T]

/-- A row's conditions hold. -/
def sat (P : Nat → Prop) (r : Nat) : Prop := ∀ i, r.testBit i = true → P i
def upP (R : List Nat) (P : Nat → Prop) : Prop := ∃ r ∈ R, sat P r
theorem sat_or (P : Nat → Prop) (a b : Nat) : sat P (a ||| b) ↔ sat P a ∧ sat P b := by
  unfold sat
  constructor
  · intro h; exact ⟨fun i hi => h i (by simp [hi]), fun i hi => h i (by simp [hi])⟩
  · rintro ⟨h1, h2⟩ i hi
    simp at hi
    exact hi.elim (h1 i) (h2 i)
theorem sat_pow (P : Nat → Prop) (m : Nat) : sat P (2 ^ m) ↔ P m := by
  unfold sat
  constructor
  · intro h; exact h m (by simp)
  · intro h i hi
    simp [Nat.testBit_two_pow] at hi
    subst hi; exact h
theorem sat_sub {P : Nat → Prop} {a b : Nat} (h : subN a b = true) (hb : sat P b) : sat P a := fun i hi => hb i (subN_iff.1 h i hi)
theorem sat_sdiff (P : Nat → Prop) (r m : Nat) (hr : r.testBit m = true) : sat P r ↔ sat P (sdiff r (2 ^ m)) ∧ P m := by
  unfold sat
  constructor
  · intro h
    refine ⟨fun i hi => ?_, h m hr⟩
    rw [sdiff_bit] at hi
    simp at hi
    exact h i hi.1
  · rintro ⟨h1, h2⟩ i hi
    by_cases e : i = m
    · subst e; exact h2
    · refine h1 i ?_
      rw [sdiff_bit, hi, Nat.testBit_two_pow]
      simp [Ne.symm e]
theorem upP_append (P : Nat → Prop) (a b : List Nat) : upP (a ++ b) P ↔ upP a P ∨ upP b P := by
  unfold upP
  constructor
  · rintro ⟨t, h, h2⟩
    exact (List.mem_append.1 h).elim (fun h => .inl ⟨t, h, h2⟩) fun h => .inr ⟨t, h, h2⟩
  · rintro (⟨t, h, h2⟩ | ⟨t, h, h2⟩)
    · exact ⟨t, List.mem_append.2 (.inl h), h2⟩
    · exact ⟨t, List.mem_append.2 (.inr h), h2⟩
theorem upP_minK (P : Nat → Prop) (l : List Nat) : upP (minK l) P ↔ upP l P := by
  constructor
  · rintro ⟨t, ht, h⟩; exact ⟨t, mem_minK ht, h⟩
  · rintro ⟨t, ht, h⟩
    obtain ⟨y, hy, h2⟩ := exists_min l _ t (Nat.le_refl _) ht
    exact ⟨y, hy, sat_sub h2 h⟩
theorem upP_one (P : Nat → Prop) (r : Nat) : upP [r] P ↔ sat P r := by
  unfold upP; simp
/-- The arguments' count, by their conditions. -/
def Says (V : Nat) (P : Nat → Prop) (vals : List Bool) (args : List Int) : Prop := ∀ a ∈ args, (sat P (cond V a) ↔ vals.getD a.toNat false = true)
theorem upP_choose (V : Nat) (P : Nat → Prop) (vals : List Bool) : ∀ (args : List Int) (k r : Nat), Says V P vals args → (upP (chooseK V args k r) P ↔ sat P r ∧ k ≤ trueN vals args) := by
  intro args
  induction args with
  | nil =>
    intro k r _
    unfold chooseK trueN
    by_cases h : k = 0
    · rw [if_pos h, upP_one]; simp [h]
    · rw [if_neg h]
      constructor
      · rintro ⟨t, ht, _⟩; cases ht
      · rintro ⟨_, h2⟩; omega
  | cons a l ih =>
    intro k r hs
    have hs' : Says V P vals l := fun x hx => hs x (List.mem_cons_of_mem _ hx)
    have ha := hs a (List.mem_cons_self ..)
    unfold chooseK trueN
    by_cases h : k = 0
    · rw [if_pos h, upP_one]; simp [h]
    · rw [if_neg h, upP_append, ih (k - 1) (withC V r a) hs', ih k r hs']
      unfold withC
      rw [sat_or, ha]
      by_cases hv : vals.getD a.toNat false = true
      · rw [if_pos hv]
        constructor
        · rintro (⟨⟨h1, _⟩, h2⟩ | ⟨h1, h2⟩)
          · exact ⟨h1, by omega⟩
          · exact ⟨h1, by omega⟩
        · rintro ⟨h1, h2⟩; exact .inl ⟨⟨h1, hv⟩, by omega⟩
      · rw [if_neg hv]
        constructor
        · rintro (⟨⟨_, h1⟩, _⟩ | ⟨h1, h2⟩)
          · exact absurd h1 hv
          · exact ⟨h1, by omega⟩
        · rintro ⟨h1, h2⟩; exact .inr ⟨h1, by omega⟩
theorem trueN_all (vals : List Bool) (args : List Int) : trueN vals args = args.length ↔ ∀ a ∈ args, vals.getD a.toNat false = true := by
  induction args with
  | nil => simp [trueN]
  | cons a l ih =>
    have := trueN_le vals l
    simp only [trueN, List.length_cons, List.mem_cons, forall_eq_or_imp]
    by_cases h : vals.getD a.toNat false = true
    · rw [if_pos h, ← ih]
      constructor
      · intro e; exact ⟨h, by omega⟩
      · intro e; omega
    · rw [if_neg h]
      constructor
      · intro e; omega
      · intro e; exact absurd e.1 h
theorem trueN_pos (vals : List Bool) (args : List Int) : 0 < trueN vals args ↔ ∃ a ∈ args, vals.getD a.toNat false = true := by
  induction args with
  | nil => simp [trueN]
  | cons a l ih =>
    simp only [trueN, List.mem_cons, exists_eq_or_imp, ← ih]
    by_cases h : vals.getD a.toNat false = true
    · rw [if_pos h]; exact ⟨fun _ => .inl h, fun _ => by omega⟩
    · rw [if_neg h]; exact ⟨fun e => .inr (by omega), fun e => e.elim (fun e => absurd e h) fun e => by omega⟩
theorem sat_fold (V : Nat) (P : Nat → Prop) (args : List Int) : ∀ r, sat P (args.foldl (withC V) r) ↔ sat P r ∧ ∀ a ∈ args, sat P (cond V a) := by
  induction args with
  | nil => intro r; simp
  | cons a l ih =>
    intro r
    show sat P (l.foldl (withC V) (withC V r a)) ↔ _
    rw [ih, withC, sat_or]
    simp [and_assoc]
theorem upP_expand (V : Nat) (P : Nat → Prop) (vals : List Bool) (x : Nd) (i r : Nat) (hs : Says V P vals x.args) (hk : x.kind = 0 ∨ x.kind = 2 ∨ x.kind = 3 ∨ x.kind = 4) (h4 : x.kind = 4 → 0 ≤ x.k) :
    upP (expandK V x i r) P ↔ sat P (sdiff r (2 ^ (24 + i))) ∧ nodeV x.kind x.k (trueN vals x.args) x.args.length = true := by
  unfold expandK nodeV
  rcases hk with hk | hk | hk | hk
  · simp only [hk, if_true]
    by_cases e : x.k = 1
    · rw [if_pos e, upP_one]; simp [e]
    · rw [if_neg e]
      simp only [beq_iff_eq, e, and_false, iff_false]
      rintro ⟨t, ht, _⟩; cases ht
  · simp only [hk, show ¬ (2 : Int) = 0 by decide, show ¬ (2 : Int) = 1 by decide, if_true, if_false]
    rw [upP_one, sat_fold, beq_iff_eq, trueN_all]
    exact and_congr Iff.rfl ⟨fun h a ha => (hs a ha).1 (h a ha), fun h a ha => (hs a ha).2 (h a ha)⟩
  · simp only [hk, show ¬ (3 : Int) = 0 by decide, show ¬ (3 : Int) = 1 by decide, show ¬ (3 : Int) = 2 by decide, if_true, if_false]
    rw [decide_eq_true_eq, trueN_pos]
    constructor
    · rintro ⟨t, ht, h⟩
      obtain ⟨a, ha, rfl⟩ := List.mem_map.1 ht
      have := (sat_or P _ _).1 h
      exact ⟨this.1, a, ha, (hs a ha).1 this.2⟩
    · rintro ⟨h, a, ha, h2⟩
      exact ⟨_, List.mem_map.2 ⟨a, ha, rfl⟩, (sat_or P _ _).2 ⟨h, (hs a ha).2 h2⟩⟩
  · simp only [hk, show ¬ (4 : Int) = 0 by decide, show ¬ (4 : Int) = 1 by decide, show ¬ (4 : Int) = 2 by decide, show ¬ (4 : Int) = 3 by decide, if_true, if_false]
    rw [upP_choose V P vals x.args _ _ hs, decide_eq_true_eq]
    have := h4 hk
    exact and_congr Iff.rfl (by omega)
theorem upP_expK (V : Nat) (P : Nat → Prop) (vals : List Bool) (x : Nd) (i : Nat) (R : List Nat) (h : ∀ r ∈ R, r.testBit (24 + i) = true → Says V P vals x.args ∧ (x.kind = 0 ∨ x.kind = 2 ∨ x.kind = 3 ∨ x.kind = 4) ∧ (x.kind = 4 → 0 ≤ x.k) ∧ (P (24 + i) ↔ nodeV x.kind x.k (trueN vals x.args) x.args.length = true)) :
    upP (expK V x i R) P ↔ upP R P := by
  unfold expK
  have one : ∀ r ∈ R, (upP (expR V x i r) P ↔ sat P r) := by
    intro r hr
    unfold expR
    by_cases hb : r.testBit (24 + i) = true
    · rw [if_pos hb]
      obtain ⟨h1, h2, h3, h4⟩ := h r hr hb
      rw [upP_expand V P vals x i r h1 h2 h3, ← h4, ← sat_sdiff P r _ hb]
    · rw [if_neg hb, upP_one]
  unfold upP
  constructor
  · rintro ⟨t, ht, hs⟩
    obtain ⟨r, hr, hrt⟩ := List.mem_flatMap.1 ht
    exact ⟨r, hr, (one r hr).1 ⟨t, hrt, hs⟩⟩
  · rintro ⟨r, hr, hs⟩
    obtain ⟨t, ht, h2⟩ := (one r hr).2 hs
    exact ⟨t, List.mem_flatMap.2 ⟨r, hr, ht⟩, h2⟩
end Go.Proofs.Ytapniojbnochiaa

/-
  Plain: bounds of the rows of the top-down search; its answer says the value of Top; the order of rows does not matter.
-/
namespace Go.Proofs.Ytapniojbnochiaa

/-- All conditions of a row have numbers below b. -/
def RowLt (b r : Nat) : Prop := ∀ j, r.testBit j = true → j < b
theorem rowLt_pow {b m : Nat} (h : m < b) : RowLt b (2 ^ m) := fun j hj => by
  simp [Nat.testBit_two_pow] at hj; omega
theorem rowLt_or {b x y : Nat} (h1 : RowLt b x) (h2 : RowLt b y) : RowLt b (x ||| y) := fun j hj => by
  simp at hj; exact hj.elim (h1 j) (h2 j)
theorem rowLt_sdiff {b r : Nat} (h : RowLt (b + 1) r) : RowLt b (sdiff r (2 ^ b)) := fun j hj => by
  rw [sdiff_bit, Nat.testBit_two_pow] at hj
  simp at hj
  have := h j hj.1
  omega
theorem rowLt_mono {b c r : Nat} (h : RowLt b r) (hc : b ≤ c) : RowLt c r := fun j hj => Nat.lt_of_lt_of_le (h j hj) hc
theorem rowLt_num {b r : Nat} (h : RowLt b r) : r < 2 ^ b := by
  apply Nat.lt_of_not_le
  intro hr
  obtain ⟨i, hi, hb⟩ := Nat.exists_ge_and_testBit_of_ge_two_pow hr
  have := h i hb
  omega
theorem rowLt_of_num {b r : Nat} (h : r < 2 ^ b) : RowLt b r := fun j hj => by
  apply Nat.lt_of_not_le
  intro hb
  rw [Nat.testBit_lt_two_pow (Nat.lt_of_lt_of_le h (Nat.pow_le_pow_right (by omega) hb))] at hj
  cases hj
theorem rowLt_cond {V m : Nat} {a : Int} (h : 0 ≤ a ∧ a < (V : Int) + m) (hV : V ≤ 24) : RowLt (24 + m) (cond V a) := by
  unfold cond
  split
  · exact rowLt_pow (by omega)
  · exact rowLt_pow (by omega)
theorem rowLt_fold {V b : Nat} (args : List Int) (h : ∀ a ∈ args, RowLt b (cond V a)) : ∀ r, RowLt b r → RowLt b (args.foldl (withC V) r) := by
  induction args with
  | nil => intro r hr; exact hr
  | cons a l ih => intro r hr; exact ih (fun x hx => h x (List.mem_cons_of_mem _ hx)) _ (rowLt_or hr (h a (List.mem_cons_self ..)))
theorem rowLt_choose {V b : Nat} (args : List Int) : (∀ a ∈ args, RowLt b (cond V a)) → ∀ k r, RowLt b r → ∀ t ∈ chooseK V args k r, RowLt b t := by
  induction args with
  | nil =>
    intro _ k r hr t ht
    unfold chooseK at ht
    split at ht
    · simp at ht; subst ht; exact hr
    · cases ht
  | cons a l ih =>
    intro h k r hr t ht
    unfold chooseK at ht
    split at ht
    · simp at ht; subst ht; exact hr
    · have h' : ∀ x ∈ l, RowLt b (cond V x) := fun x hx => h x (List.mem_cons_of_mem _ hx)
      rcases List.mem_append.1 ht with ht | ht
      · exact ih h' _ _ (rowLt_or hr (h a (List.mem_cons_self ..))) t ht
      · exact ih h' _ _ hr t ht
theorem rowLt_expand {V i r : Nat} {x : Nd} (hV : V ≤ 24) (ha : ∀ a ∈ x.args, 0 ≤ a ∧ a < (V : Int) + i) (hr : RowLt (24 + i + 1) r) : ∀ t ∈ expandK V x i r, RowLt (24 + i) t := by
  have h' : ∀ a ∈ x.args, RowLt (24 + i) (cond V a) := fun a h => rowLt_cond (ha a h) hV
  have hd := rowLt_sdiff hr
  intro t ht
  unfold expandK at ht
  split at ht
  · split at ht
    · simp at ht; subst ht; exact hd
    · cases ht
  · split at ht
    · simp at ht; subst ht; exact rowLt_fold _ h' _ hd
    · split at ht
      · obtain ⟨a, h1, rfl⟩ := List.mem_map.1 ht
        exact rowLt_or hd (h' a h1)
      · exact rowLt_choose _ h' _ _ hd t ht
theorem rowLt_less {b r : Nat} (h : RowLt (b + 1) r) (hb : r.testBit b = false) : RowLt b r := fun j hj => by
  have := h j hj
  by_cases e : j = b
  · subst e; rw [hb] at hj; cases hj
  · omega
theorem rowLt_expK {V i : Nat} {x : Nd} {R : List Nat} (hV : V ≤ 24) (ha : ∀ a ∈ x.args, 0 ≤ a ∧ a < (V : Int) + i) (hR : ∀ r ∈ R, RowLt (24 + i + 1) r) : ∀ t ∈ expK V x i R, RowLt (24 + i) t := by
  intro t ht
  obtain ⟨r, hr, ht⟩ := List.mem_flatMap.1 ht
  unfold expR at ht
  split at ht
  · exact rowLt_expand hV ha (hR r hr) t ht
  · rename_i h
    simp at ht
    subst ht
    exact rowLt_less (hR t hr) (by simpa using h)
theorem rowLt_skip {i : Nat} {R : List Nat} (hR : ∀ r ∈ R, RowLt (24 + (i + 1)) r) (h : ¬ R.any (fun r => r.testBit (24 + i)) = true) : ∀ r ∈ R, RowLt (24 + i) r := fun r hr =>
  rowLt_less (b := 24 + i) (hR r hr) (by
    cases hb : r.testBit (24 + i) with
    | false => rfl
    | true => exact absurd (List.any_eq_true.2 ⟨r, hr, hb⟩) h)
/-- The nodes of a row are marked. -/
def Marked (V : Nat) (mark : List Bool) (r : Nat) : Prop := ∀ j, r.testBit (24 + j) = true → mark.getD (V + j) false = true
theorem marked_or {V : Nat} {mark : List Bool} {x y : Nat} (h1 : Marked V mark x) (h2 : Marked V mark y) : Marked V mark (x ||| y) := fun j hj => by
  simp at hj; exact hj.elim (h1 j) (h2 j)
theorem marked_sub {V : Nat} {mark : List Bool} {x m : Nat} (h : Marked V mark x) : Marked V mark (sdiff x m) := fun j hj => by
  rw [sdiff_bit] at hj; simp at hj; exact h j hj.1
theorem marked_cond {V : Nat} {mark : List Bool} {a : Int} (h0 : 0 ≤ a) (hV : V ≤ 24) (h : mark.getD a.toNat false = true) : Marked V mark (cond V a) := by
  intro j hj
  unfold cond at hj
  split at hj
  · simp [Nat.testBit_two_pow] at hj; omega
  · simp [Nat.testBit_two_pow] at hj
    rw [show V + j = a.toNat by omega]; exact h
theorem marked_fold {V : Nat} {mark : List Bool} (args : List Int) (h : ∀ a ∈ args, Marked V mark (cond V a)) : ∀ r, Marked V mark r → Marked V mark (args.foldl (withC V) r) := by
  induction args with
  | nil => intro r hr; exact hr
  | cons a l ih => intro r hr; exact ih (fun x hx => h x (List.mem_cons_of_mem _ hx)) _ (marked_or hr (h a (List.mem_cons_self ..)))
theorem marked_choose {V : Nat} {mark : List Bool} (args : List Int) : (∀ a ∈ args, Marked V mark (cond V a)) → ∀ k r, Marked V mark r → ∀ t ∈ chooseK V args k r, Marked V mark t := by
  induction args with
  | nil =>
    intro _ k r hr t ht
    unfold chooseK at ht
    split at ht
    · simp at ht; subst ht; exact hr
    · cases ht
  | cons a l ih =>
    intro h k r hr t ht
    unfold chooseK at ht
    split at ht
    · simp at ht; subst ht; exact hr
    · have h' : ∀ x ∈ l, Marked V mark (cond V x) := fun x hx => h x (List.mem_cons_of_mem _ hx)
      rcases List.mem_append.1 ht with ht | ht
      · exact ih h' _ _ (marked_or hr (h a (List.mem_cons_self ..))) t ht
      · exact ih h' _ _ hr t ht
theorem marked_expK {V i : Nat} {mark : List Bool} {x : Nd} {R : List Nat} (hV : V ≤ 24) (hR : ∀ r ∈ R, Marked V mark r)
    (ha : mark.getD (V + i) false = true → ∀ a ∈ x.args, 0 ≤ a ∧ mark.getD a.toNat false = true) : ∀ t ∈ expK V x i R, Marked V mark t := by
  intro t ht
  obtain ⟨r, hr, ht⟩ := List.mem_flatMap.1 ht
  unfold expR at ht
  split at ht
  · rename_i hb
    have hm := ha (hR r hr i hb)
    have h' : ∀ a ∈ x.args, Marked V mark (cond V a) := fun a h => marked_cond (hm a h).1 hV (hm a h).2
    have hd : Marked V mark (sdiff r (2 ^ (24 + i))) := marked_sub (hR r hr)
    unfold expandK at ht
    split at ht
    · split at ht
      · simp at ht; subst ht; exact hd
      · cases ht
    · split at ht
      · simp at ht; subst ht; exact marked_fold _ h' _ hd
      · split at ht
        · obtain ⟨a, h1, rfl⟩ := List.mem_map.1 ht
          exact marked_or hd (h' a h1)
        · exact marked_choose _ h' _ _ hd t ht
  · simp at ht; subst ht; exact hR t hr
/-- What holds of the conditions in a state. -/
def holdsP (V s : Nat) (nodes : List Nd) (i : Nat) : Prop := if i < 24 then s.testBit i = true else (valsK V s nodes).getD (V + (i - 24)) false = true
theorem says_args {V T : Nat} {f : Fm} (hok : Ok f V T) (s : Nat) (args : List Int) (h : ∀ a ∈ args, 0 ≤ a) : Says V (holdsP V s f.nodes) (valsK V s f.nodes) args := by
  intro a ha
  have h0 := h a ha
  have hV := hok.v24
  unfold cond
  by_cases hlt : a < V
  · rw [if_pos hlt, sat_pow]
    unfold holdsP
    rw [if_pos (by omega)]
    unfold valsK
    rw [valsUp_event V s f.nodes _ a.toNat (by omega)]
  · rw [if_neg hlt, sat_pow]
    unfold holdsP
    rw [if_neg (by omega), show V + (24 + (a - (V : Int)).toNat - 24) = a.toNat by omega]
theorem holds_node {V T : Nat} {f : Fm} (hok : Ok f V T) (s i : Nat) (hi : i < f.nodes.length) : holdsP V s f.nodes (24 + i) ↔ nodeV f.nodes[i].kind f.nodes[i].k (trueN (valsK V s f.nodes) f.nodes[i].args) f.nodes[i].args.length = true := by
  have hnd : f.nodes.getD i noNd = f.nodes[i] := by simp [List.getD_eq_getElem?_getD, hi]
  unfold holdsP
  rw [if_neg (by omega), show V + (24 + i - 24) = V + i by omega]
  unfold valsK
  rw [valsUp_get V s f.nodes (i + 1) f.nodes.length (V + i) (by omega) (by omega)]
  show (valsUp V s f.nodes i ++ [_]).getD (V + i) false = true ↔ _
  rw [getD_snoc _ _ _ (len_valsUp V s f.nodes i).symm, hnd,
    trueN_congr (valsUp V s f.nodes i) (valsUp V s f.nodes f.nodes.length) f.nodes[i].args fun x hx => by
      have := hok.args i hi x hx
      exact (valsUp_get V s f.nodes i f.nodes.length x.toNat (by omega) (by omega)).symm]
theorem upP_runK {V T : Nat} {f : Fm} (hok : Ok f V T) (hs : synK V T f = true) (s : Nat) : ∀ i R p, i ≤ f.nodes.length → (∀ r ∈ R, Marked V (belowK V T f.nodes) r) → runK V f.nodes i R = some p → (upP p.1 (holdsP V s f.nodes) ↔ upP R (holdsP V s f.nodes)) := by
  intro i
  induction i with
  | zero => intro R p _ _ h; cases h; exact Iff.rfl
  | succ i ih =>
    intro R p hi hm h
    have hil : i < f.nodes.length := by omega
    have hnd : f.nodes.getD i noNd = f.nodes[i] := by simp [List.getD_eq_getElem?_getD, hil]
    unfold runK at h
    rw [hnd] at h
    split at h
    · split at h
      · split at h
        · cases h1 : runK V f.nodes i (minK (expK V f.nodes[i] i R)) with
          | none => rw [h1] at h; cases h
          | some q =>
            rw [h1] at h
            cases h
            have hm2 : ∀ r ∈ minK (expK V f.nodes[i] i R), Marked V (belowK V T f.nodes) r := fun r hr =>
              marked_expK hok.v24 hm (fun hk a ha => ⟨(hok.args i hil a ha).1, below_closed V T f hok i hil hk a ha⟩) r (mem_minK hr)
            rw [ih _ q (by omega) hm2 h1, upP_minK]
            refine upP_expK V _ (valsK V s f.nodes) f.nodes[i] i R fun r hr hb => ?_
            have hmk := hm r hr i hb
            have hkd := kind_mono hok hs i hil hmk
            refine ⟨says_args hok s _ fun a ha => (hok.args i hil a ha).1, hkd, fun h4 => ?_, holds_node hok s i hil⟩
            have := hok.arity i hil
            unfold chkK at this
            rw [if_neg (by omega), if_pos h4] at this
            split at this
            · omega
            · cases this
        · cases h
      · cases h
    · exact ih R p (by omega) hm h
theorem rowLt_runK {V T : Nat} {f : Fm} (hok : Ok f V T) : ∀ i R p, i ≤ f.nodes.length → (∀ r ∈ R, RowLt (24 + i) r) → runK V f.nodes i R = some p → ∀ r ∈ p.1, RowLt 24 r := by
  intro i
  induction i with
  | zero => intro R p _ hR h; cases h; exact hR
  | succ i ih =>
    intro R p hi hR h
    have hil : i < f.nodes.length := by omega
    have hnd : f.nodes.getD i noNd = f.nodes[i] := by simp [List.getD_eq_getElem?_getD, hil]
    unfold runK at h
    rw [hnd] at h
    split at h
    · split at h
      · split at h
        · cases h1 : runK V f.nodes i (minK (expK V f.nodes[i] i R)) with
          | none => rw [h1] at h; cases h
          | some q =>
            rw [h1] at h
            cases h
            exact ih _ q (by omega) (fun r hr => rowLt_expK hok.v24 (hok.args i hil) hR r (mem_minK hr)) h1
        · cases h
      · cases h
    · rename_i hany
      exact ih R p (by omega) (rowLt_skip hR hany) h
theorem can_runK (V : Nat) (nodes : List Nd) : ∀ i R p, Good R → runK V nodes i R = some p → Good p.1 := by
  intro i
  induction i with
  | zero => intro R p hR h; cases h; exact hR
  | succ i ih =>
    intro R p hR h
    unfold runK at h
    split at h
    · split at h
      · split at h
        · cases h1 : runK V nodes i (minK (expK V (nodes.getD i noNd) i R)) with
          | none => rw [h1] at h; cases h
          | some q =>
            rw [h1] at h
            cases h
            exact ih _ q ⟨can_minK _, by assumption⟩ h1
        · cases h
      · cases h
    · exact ih R p hR h
/-- The answer of the search: a family that says the value of Top. -/
theorem topK_says {V T : Nat} {f : Fm} (hok : Ok f V T) (hs : synK V T f = true) {p : List Nat × List Nat} (h : topK V T f.nodes = some p) :
    Good p.1 ∧ (∀ r ∈ p.1, Mk r) ∧ ∀ s, up p.1 s ↔ (valsK V s f.nodes).getD T false = true := by
  have hT := hok.tlt
  have hV := hok.v24
  have hlt : ∀ r ∈ [cond V (T : Int)], RowLt (24 + f.nodes.length) r := by
    intro r hr
    simp at hr
    subst hr
    exact rowLt_cond (by omega) hV
  have hmk : ∀ r ∈ [cond V (T : Int)], Marked V (belowK V T f.nodes) r := by
    intro r hr
    simp at hr
    subst hr
    refine marked_cond (by omega) hV ?_
    unfold belowK
    refine belowGo_keep V f.nodes _ _ _ ?_
    rw [List.getD_eq_getElem?_getD, Int.toNat_natCast, List.getElem?_set_self (by simp; omega)]; rfl
  have h24 := rowLt_runK hok _ _ p (Nat.le_refl _) hlt h
  refine ⟨can_runK V f.nodes _ _ p (good_one _) h, fun r hr => rowLt_num (h24 r hr), fun s => ?_⟩
  have hup := upP_runK hok hs s _ _ p (Nat.le_refl _) hmk h
  have e1 : up p.1 s ↔ upP p.1 (holdsP V s f.nodes) := by
    unfold up upP
    have : ∀ r ∈ p.1, (subN r s = true ↔ sat (holdsP V s f.nodes) r) := by
      intro r hr
      rw [subN_iff]
      unfold sat holdsP
      constructor
      · intro h i hi
        rw [if_pos (h24 r hr i hi)]; exact h i hi
      · intro h i hi
        have := h i hi
        rw [if_pos (h24 r hr i hi)] at this; exact this
    exact ⟨fun ⟨r, hr, h⟩ => ⟨r, hr, (this r hr).1 h⟩, fun ⟨r, hr, h⟩ => ⟨r, hr, (this r hr).2 h⟩⟩
  rw [e1, hup, upP_one]
  have := says_args hok s [(T : Int)] (by simp) (T : Int) (by simp)
  rw [this]; simp
/-- Both ways find the same. -/
theorem topK_cuts {V T : Nat} {f : Fm} (hok : Ok f V T) (hs : synK V T f = true) {p : List Nat × List Nat} (h : topK V T f.nodes = some p) {l : List (List Nat)} (hl : famsK V T f.nodes = some l) :
    p.1 = (if T < V then [2 ^ T] else l.getD (T - V) []) := by
  obtain ⟨h1, _, h3⟩ := topK_says hok hs h
  exact can_eq h1.1 (good_cuts hl).1 fun s => (h3 s).trans (up_cutsK hok hs hl s).symm

/-- The rows that stay of a list sorted by size. -/
theorem least_fold (l : List Nat) : ∀ (out done : List Nat), (done ++ l).Pairwise (fun a b => pc a ≤ pc b) → out.Nodup → (∀ x ∈ out, x ∈ done) → (∀ x ∈ done, ∃ t ∈ out, subN t x = true) → (∀ x ∈ out, ∀ y ∈ done, subN y x = true → y = x) →
    (l.foldl keepN out).Nodup ∧ (∀ x ∈ l.foldl keepN out, x ∈ done ++ l) ∧ (∀ x ∈ done ++ l, ∃ t ∈ l.foldl keepN out, subN t x = true) ∧ ∀ x ∈ l.foldl keepN out, ∀ y ∈ done ++ l, subN y x = true → y = x := by
  induction l with
  | nil => intro out done _ h1 h2 h3 h4; simpa using ⟨h1, h2, h3, h4⟩
  | cons s l ih =>
    intro out done hp h1 h2 h3 h4
    have hle : ∀ x ∈ done, pc x ≤ pc s := fun x hx => (List.pairwise_append.1 hp).2.2 x hx s (List.mem_cons_self ..)
    have hp' : ((done ++ [s]) ++ l).Pairwise (fun a b => pc a ≤ pc b) := by simpa using hp
    have e : done ++ s :: l = (done ++ [s]) ++ l := by simp
    rw [e]
    show (l.foldl keepN (keepN out s)).Nodup ∧ _
    by_cases hk : out.any (fun t => subN t s) = true
    · rw [show (s :: l).foldl keepN out = l.foldl keepN out by show l.foldl keepN (keepN out s) = _; rw [show keepN out s = out from if_pos hk], show keepN out s = out from if_pos hk]
      obtain ⟨t, ht, hts⟩ := List.any_eq_true.1 hk
      refine ih out (done ++ [s]) hp' h1 (fun x hx => List.mem_append.2 (.inl (h2 x hx))) (fun x hx => ?_) fun x hx y hy hyx => ?_
      · rcases List.mem_append.1 hx with hx | hx
        · exact h3 x hx
        · simp at hx; subst hx; exact ⟨t, ht, hts⟩
      · rcases List.mem_append.1 hy with hy | hy
        · exact h4 x hx y hy hyx
        · simp at hy
          subst hy
          have := h4 x hx t (h2 t ht) (subN_tr hts hyx)
          subst this
          exact subN_anti hyx hts
    · rw [show (s :: l).foldl keepN out = l.foldl keepN (out ++ [s]) by show l.foldl keepN (keepN out s) = _; rw [show keepN out s = out ++ [s] from if_neg hk], show keepN out s = out ++ [s] from if_neg hk]
      have hk' : ∀ t ∈ out, ¬ subN t s = true := fun t ht h => hk (List.any_eq_true.2 ⟨t, ht, h⟩)
      refine ih (out ++ [s]) (done ++ [s]) hp' ?_ (fun x hx => ?_) (fun x hx => ?_) fun x hx y hy hyx => ?_
      · rw [List.nodup_append]
        refine ⟨h1, by simp, fun a ha b hb => ?_⟩
        simp at hb
        subst hb
        intro e2
        subst e2
        exact hk' _ ha (subN_refl _)
      · rcases List.mem_append.1 hx with hx | hx
        · exact List.mem_append.2 (.inl (h2 x hx))
        · exact List.mem_append.2 (.inr hx)
      · rcases List.mem_append.1 hx with hx | hx
        · obtain ⟨t, ht, h⟩ := h3 x hx
          exact ⟨t, List.mem_append.2 (.inl ht), h⟩
        · simp at hx; subst hx
          exact ⟨x, by simp, subN_refl x⟩
      · rcases List.mem_append.1 hx with hx' | hx
        · rcases List.mem_append.1 hy with hy | hy
          · exact h4 x hx' y hy hyx
          · simp at hy
            subst hy
            exact (subN_le hyx).2 (by have := (subN_le hyx).1; have := hle x (h2 x hx'); omega)
        · simp at hx
          subst hx
          rcases List.mem_append.1 hy with hy | hy
          · obtain ⟨t, ht, h⟩ := h3 y hy
            exact absurd (subN_tr h hyx) (hk' t ht)
          · simp at hy; exact hy
theorem ltK_nodup {l : List Nat} (h : l.Pairwise ltK) : l.Nodup := h.imp fun {a b} hab e => by subst e; exact ltK_irr a hab
theorem perm_of_mem {l r : List Nat} (h1 : l.Nodup) (h2 : r.Nodup) (h : ∀ x, x ∈ l ↔ x ∈ r) : l.Perm r := (List.perm_ext_iff_of_nodup h1 h2).2 h
/-- Least of a list that is sorted by size: in some order, the minimal ones. -/
theorem least_perm {l F : List Nat} (hp : l.Perm F) (hs : l.Pairwise fun a b => pc a ≤ pc b) : (minN l).Perm (minK F) := by
  obtain ⟨h1, h2, h3, h4⟩ := least_fold l [] [] (by simpa using hs) (by simp) (by simp) (by simp) (by simp)
  refine perm_of_mem h1 (ltK_nodup (pair_minK F)) fun x => ?_
  rw [mem_minK_iff]
  simp only [List.nil_append] at h2 h3 h4
  show x ∈ l.foldl keepN [] ↔ _
  constructor
  · intro hx
    exact ⟨hp.mem_iff.1 (h2 x hx), fun y hy hyx => h4 x hx y (hp.mem_iff.2 hy) hyx⟩
  · rintro ⟨hx, hmin⟩
    obtain ⟨t, ht, htx⟩ := h3 x (hp.mem_iff.2 hx)
    have := hmin t (hp.mem_iff.1 (h2 t ht)) htx
    subst this; exact ht
theorem expK_perm {V i : Nat} {x : Nd} {L R : List Nat} (h : L.Perm R) : (expK V x i L).Perm (expK V x i R) := h.flatMap_right _
theorem minK_perm {L R : List Nat} (h : L.Perm R) : minK L = minK R := minK_congr _ _ fun _ => h.mem_iff
theorem any_perm {L R : List Nat} (h : L.Perm R) (p : Nat → Bool) : L.any p = R.any p := by
  rw [Bool.eq_iff_iff, List.any_eq_true, List.any_eq_true]
  exact ⟨fun ⟨x, hx, hp⟩ => ⟨x, h.mem_iff.1 hx, hp⟩, fun ⟨x, hx, hp⟩ => ⟨x, h.mem_iff.2 hx, hp⟩⟩
/-- Nodes that no row has are passed by. -/
theorem runK_skip (V : Nat) (nodes : List Nd) (i : Nat) (R : List Nat) : ∀ m, i ≤ m → (∀ j, i ≤ j → j < m → R.any (fun r => r.testBit (24 + j)) = false) → runK V nodes m R = runK V nodes i R := by
  intro m
  induction m with
  | zero => intro h _; have : i = 0 := by omega
            subst this; rfl
  | succ m ih =>
    intro h hj
    by_cases e : i = m + 1
    · subst e; rfl
    · rw [← ih (by omega) fun j h1 h2 => hj j h1 (by omega)]
      conv => lhs; unfold runK
      rw [if_neg (by rw [hj m (by omega) (by omega)]; simp)]
end Go.Proofs.Ytapniojbnochiaa

/-
  Walks: the rows of topdown: has, with, without.
-/
namespace Go.Proofs.Ytapniojbnochiaa
open Go.RowKit

theorem or_u64 (a b : Nat) (ha : a < 18446744073709551616) (hb : b < 18446744073709551616) : bits .or .u64 (a : Int) (b : Int) = ((a ||| b : Nat) : Int) := by
  have h : (BitVec.ofInt 64 (a : Int) ||| BitVec.ofInt 64 (b : Int)).toNat = a ||| b := by rw [BitVec.toNat_or, ofNat_toNat a ha, ofNat_toNat b hb]
  show IntKind.u64.wrap (((BitVec.ofInt 64 (a : Int) ||| BitVec.ofInt 64 (b : Int)).toNat : Nat) : Int) = _
  rw [h]; have := Nat.or_lt_two_pow (n := 64) (x := a) (y := b) (by omega) (by omega); exact wrap_u64 _ (by omega)
theorem andNot_u64 (a b : Nat) (ha : a < 18446744073709551616) (hb : b < 18446744073709551616) : bits .andNot .u64 (a : Int) (b : Int) = ((sdiff a b : Nat) : Int) := by
  have h : (BitVec.ofInt 64 (a : Int) &&& ~~~ BitVec.ofInt 64 (b : Int)).toNat = sdiff a b := by
    have e : BitVec.ofInt 64 (a : Int) &&& ~~~ BitVec.ofInt 64 (b : Int) = BitVec.ofInt 64 (a : Int) ^^^ (BitVec.ofInt 64 (a : Int) &&& BitVec.ofInt 64 (b : Int)) := by
      ext i hi
      simp only [BitVec.getElem_and, BitVec.getElem_not, BitVec.getElem_xor]
      cases (BitVec.ofInt 64 (a : Int))[i] <;> cases (BitVec.ofInt 64 (b : Int))[i] <;> rfl
    rw [e, BitVec.toNat_xor, BitVec.toNat_and, ofNat_toNat a ha, ofNat_toNat b hb]; rfl
  show IntKind.u64.wrap (((BitVec.ofInt 64 (a : Int) &&& ~~~ BitVec.ofInt 64 (b : Int)).toNat : Nat) : Int) = _
  rw [h]
  have h2 : sdiff a b < 2 ^ 64 := Nat.xor_lt_two_pow (by omega) (Nat.lt_of_le_of_lt Nat.and_le_left (by omega))
  exact wrap_u64 _ (by omega)
theorem pow_u64 (i : Nat) (h : i < 64) : IntKind.u64.wrap ((2 : Int) ^ i) = ((2 ^ i : Nat) : Int) := by
  have h1 : 2 ^ i < 18446744073709551616 := Nat.lt_of_lt_of_le (Nat.pow_lt_pow_right (by omega) h : 2 ^ i < 2 ^ 64) (by decide)
  have := wrap_u64 (2 ^ i) h1
  rw [← this]; simp
theorem pow_lt64 {i : Nat} (h : i < 64) : 2 ^ i < 18446744073709551616 := Nat.lt_of_lt_of_le (Nat.pow_lt_pow_right (by omega) h : 2 ^ i < 2 ^ 64) (by decide)
theorem pow_lt24 {i : Nat} (h : i < 24) : 2 ^ i < 16777216 := Nat.lt_of_lt_of_le (Nat.pow_lt_pow_right (by omega) h : 2 ^ i < 2 ^ 24) (by decide)
theorem bit_u64 (l i : Nat) (hl : l < 18446744073709551616) : (bits .and .u64 ((l : Int) / 2 ^ i) 1 == 1) = l.testBit i := by
  have h1 : (l : Int) / 2 ^ i = ((l / 2 ^ i : Nat) : Int) := by simp
  have h2 : l / 2 ^ i < 18446744073709551616 := Nat.lt_of_le_of_lt (Nat.div_le_self _ _) hl
  rw [h1, show (1 : Int) = ((1 : Nat) : Int) from rfl, and_u64 _ _ h2 (by decide), Nat.and_one_is_mod, Nat.testBit_eq_decide_div_mod_eq, Bool.eq_iff_iff]
  simp; omega
theorem has_lo (e l h i : Nat) (hl : l < 18446744073709551616) (hi : i < 64) (w : World) :
    Calls Try.prog 95 #[.agg #[.int .i64 e, .int .u64 l, .int .u64 h], .int .i64 i] w fun e' w' => e' = .returned (.bool (l.testBit i)) ∧ Kept w w' := by
  have q0 : (i : Int) / 64 = 0 := by omega
  have q1 : (i : Int) % 64 = i := by omega
  have q2 : Int.tdiv (i : Int) 64 = 0 := by rw [Int.tdiv_eq_ediv_of_nonneg (by omega)]; exact q0
  have q3 : Int.tmod (i : Int) 64 = i := by rw [Int.tmod_eq_emod_of_nonneg (by omega)]; exact q1
  have HB := Lib.hid (bit_u64 l i hl)
  go_enter Try.func95, Try.ntmps95
  go_wp2
  go_ret
  exact ⟨by rw [← HB.out]; rfl, (Kept.refl _).alloc _⟩
theorem has_hi (e l h j : Nat) (hl : h < 18446744073709551616) (hj : j < 64) (w : World) :
    Calls Try.prog 95 #[.agg #[.int .i64 e, .int .u64 l, .int .u64 h], .int .i64 (64 + j : Nat)] w fun e' w' => e' = .returned (.bool (h.testBit j)) ∧ Kept w w' := by
  obtain ⟨i, hi⟩ : ∃ i, i = 64 + j := ⟨_, rfl⟩
  rw [← hi]
  have q0 : (i : Int) / 64 = 1 := by omega
  have q1 : (i : Int) % 64 = j := by omega
  have q2 : Int.tdiv (i : Int) 64 = 1 := by rw [Int.tdiv_eq_ediv_of_nonneg (by omega)]; exact q0
  have q3 : Int.tmod (i : Int) 64 = j := by rw [Int.tmod_eq_emod_of_nonneg (by omega)]; exact q1
  have HB := Lib.hid (bit_u64 h j hl)
  clear hi
  go_enter Try.func95, Try.ntmps95
  go_wp2
  go_ret
  exact ⟨by rw [← HB.out]; rfl, (Kept.refl _).alloc _⟩
theorem pow_i64 (V : Nat) (h : V ≤ 24) : wrap64 ((2 : Int) ^ V) = ((2 ^ V : Nat) : Int) := by
  have h1 : (2 : Nat) ^ V ≤ 2 ^ 24 := Nat.pow_le_pow_right (by omega) h
  rw [show (2 : Int) ^ V = ((2 ^ V : Nat) : Int) by simp]
  generalize (2 : Nat) ^ V = z at h1 ⊢
  unfold wrap64; omega
theorem with_ev (e l h a : Nat) (V : Nat) (v : Value) (T : Int) (hs : ∃ a n c, v = .slice a n c) (he : e < 16777216) (hV : V ≤ 24) (ha : a < V) (w : World) :
    Calls Try.prog 93 #[.agg #[.int .i64 e, .int .u64 l, .int .u64 h], .agg #[.int .i64 V, v, .int .i64 T], .int .i64 a] w fun e' w' => e' = .returned (.agg #[.int .i64 (e ||| 2 ^ a : Nat), .int .u64 l, .int .u64 h]) ∧ Kept w w' := by
  obtain ⟨sa, n, c, rfl⟩ := hs
  have h1 : (a : Int) < (V : Int) := by omega
  have h2 : ¬ (a : Int) < 0 := by omega
  have p1 := pow_i64 a (by omega)
  have hp := pow_lt24 (show a < 24 by omega)
  obtain ⟨z, hz⟩ : ∃ z, z = 2 ^ a := ⟨_, rfl⟩
  rw [← hz] at p1 hp ⊢
  have p2 := or_i64 e z (by omega) (by omega)
  clear hz
  obtain ⟨y, hy⟩ : ∃ y, y = e ||| z := ⟨_, rfl⟩
  rw [← hy] at p2 ⊢
  clear hy
  go_enter Try.func93, Try.ntmps93
  go_wp2
  go_region
  all_goals go_wp2
  all_goals exact bodyPost_ret (v := .agg #[.int .i64 y, .int .u64 l, .int .u64 h]) (by simp [results, Try.results93, go_sem]) rfl ⟨rfl, by first | exact ((((Kept.refl _).alloc _).alloc _).alloc _) | exact ((((Kept.refl _).alloc _).alloc _).alloc _).drew⟩
theorem with_lo (e l h j : Nat) (V : Nat) (v : Value) (T : Int) (hs : ∃ a n c, v = .slice a n c) (hl : l < 18446744073709551616) (hV : V ≤ 24) (hj : j < 64) (w : World) (y : Nat) (hy : y = l ||| 2 ^ j) :
    Calls Try.prog 93 #[.agg #[.int .i64 e, .int .u64 l, .int .u64 h], .agg #[.int .i64 V, v, .int .i64 T], .int .i64 (V + (j) : Nat)] w fun e' w' => e' = .returned (.agg #[.int .i64 e, .int .u64 y, .int .u64 h]) ∧ Kept w w' := by
  obtain ⟨sa, n, c, rfl⟩ := hs
  obtain ⟨i, hi⟩ : ∃ i, i = j := ⟨_, rfl⟩
  obtain ⟨a, ha⟩ : ∃ a, a = V + i := ⟨_, rfl⟩
  rw [← hi, ← ha]
  have h1 : ¬ (a : Int) < (V : Int) := by omega
  have h3 : IntKind.i64.wrap ((a : Int) - (V : Int)) = (i : Int) := by rw [IntKind.wrap_i64]; omega
  have h4 : (a : Int) - (V : Int) = (i : Int) := by omega
  have q0 : (i : Int) / 64 = 0 := by omega
  have q1 : (i : Int) % 64 = j := by omega
  have q2 : Int.tdiv (i : Int) 64 = 0 := by rw [Int.tdiv_eq_ediv_of_nonneg (by omega)]; exact q0
  have q3 : Int.tmod (i : Int) 64 = j := by rw [Int.tmod_eq_emod_of_nonneg (by omega)]; exact q1
  have q4 : ¬ (j : Int) < 0 := by omega
  have p1 := pow_u64 j hj
  have hp := pow_lt64 hj
  obtain ⟨z, hz⟩ : ∃ z, z = 2 ^ j := ⟨_, rfl⟩
  rw [← hz] at p1 hp hy
  have p2 := or_u64 l z hl hp
  rw [← hy] at p2
  clear hz hy hi ha
  go_enter Try.func93, Try.ntmps93
  go_wp2
  go_region
  all_goals go_wp2
  all_goals exact bodyPost_ret (v := .agg #[.int .i64 e, .int .u64 y, .int .u64 h]) (by simp [results, Try.results93, go_sem]) rfl ⟨rfl, by first | exact ((((Kept.refl _).alloc _).alloc _).alloc _) | exact ((((Kept.refl _).alloc _).alloc _).alloc _).drew⟩
theorem without_lo (e l h j : Nat) (hl : l < 18446744073709551616) (hj : j < 64) (w : World) (y : Nat) (hy : y = sdiff l (2 ^ j)) :
    Calls Try.prog 123 #[.agg #[.int .i64 e, .int .u64 l, .int .u64 h], .int .i64 (j : Nat)] w fun e' w' => e' = .returned (.agg #[.int .i64 e, .int .u64 y, .int .u64 h]) ∧ Kept w w' := by
  obtain ⟨i, hi⟩ : ∃ i, i = j := ⟨_, rfl⟩
  rw [← hi]
  have q0 : (i : Int) / 64 = 0 := by omega
  have q1 : (i : Int) % 64 = j := by omega
  have q2 : Int.tdiv (i : Int) 64 = 0 := by rw [Int.tdiv_eq_ediv_of_nonneg (by omega)]; exact q0
  have q3 : Int.tmod (i : Int) 64 = j := by rw [Int.tmod_eq_emod_of_nonneg (by omega)]; exact q1
  have q4 : ¬ (j : Int) < 0 := by omega
  have p1 := pow_u64 j hj
  have hp := pow_lt64 hj
  obtain ⟨z, hz⟩ : ∃ z, z = 2 ^ j := ⟨_, rfl⟩
  rw [← hz] at p1 hp hy
  have p2 := andNot_u64 l z hl hp
  rw [← hy] at p2
  clear hz hy hi
  go_enter Try.func123, Try.ntmps123
  go_wp2
  go_region
  all_goals go_wp2
  all_goals exact bodyPost_ret (v := .agg #[.int .i64 e, .int .u64 y, .int .u64 h]) (by simp [results, Try.results123, go_sem]) rfl ⟨rfl, by first | exact ((((Kept.refl _).alloc _).alloc _)) | exact ((((Kept.refl _).alloc _).alloc _)).drew⟩
theorem with_hi (e l h j : Nat) (V : Nat) (v : Value) (T : Int) (hs : ∃ a n c, v = .slice a n c) (hl : h < 18446744073709551616) (hV : V ≤ 24) (hj : j < 64) (w : World) (y : Nat) (hy : y = h ||| 2 ^ j) :
    Calls Try.prog 93 #[.agg #[.int .i64 e, .int .u64 l, .int .u64 h], .agg #[.int .i64 V, v, .int .i64 T], .int .i64 (V + (64 + j) : Nat)] w fun e' w' => e' = .returned (.agg #[.int .i64 e, .int .u64 l, .int .u64 y]) ∧ Kept w w' := by
  obtain ⟨sa, n, c, rfl⟩ := hs
  obtain ⟨i, hi⟩ : ∃ i, i = 64 + j := ⟨_, rfl⟩
  obtain ⟨a, ha⟩ : ∃ a, a = V + i := ⟨_, rfl⟩
  rw [← hi, ← ha]
  have h1 : ¬ (a : Int) < (V : Int) := by omega
  have h3 : IntKind.i64.wrap ((a : Int) - (V : Int)) = (i : Int) := by rw [IntKind.wrap_i64]; omega
  have h4 : (a : Int) - (V : Int) = (i : Int) := by omega
  have q0 : (i : Int) / 64 = 1 := by omega
  have q1 : (i : Int) % 64 = j := by omega
  have q2 : Int.tdiv (i : Int) 64 = 1 := by rw [Int.tdiv_eq_ediv_of_nonneg (by omega)]; exact q0
  have q3 : Int.tmod (i : Int) 64 = j := by rw [Int.tmod_eq_emod_of_nonneg (by omega)]; exact q1
  have q4 : ¬ (j : Int) < 0 := by omega
  have p1 := pow_u64 j hj
  have hp := pow_lt64 hj
  obtain ⟨z, hz⟩ : ∃ z, z = 2 ^ j := ⟨_, rfl⟩
  rw [← hz] at p1 hp hy
  have p2 := or_u64 h z hl hp
  rw [← hy] at p2
  clear hz hy hi ha
  go_enter Try.func93, Try.ntmps93
  go_wp2
  go_region
  all_goals go_wp2
  all_goals exact bodyPost_ret (v := .agg #[.int .i64 e, .int .u64 l, .int .u64 y]) (by simp [results, Try.results93, go_sem]) rfl ⟨rfl, by first | exact ((((Kept.refl _).alloc _).alloc _).alloc _) | exact ((((Kept.refl _).alloc _).alloc _).alloc _).drew⟩
theorem without_hi (e l h j : Nat) (hl : h < 18446744073709551616) (hj : j < 64) (w : World) (y : Nat) (hy : y = sdiff h (2 ^ j)) :
    Calls Try.prog 123 #[.agg #[.int .i64 e, .int .u64 l, .int .u64 h], .int .i64 (64 + j : Nat)] w fun e' w' => e' = .returned (.agg #[.int .i64 e, .int .u64 l, .int .u64 y]) ∧ Kept w w' := by
  obtain ⟨i, hi⟩ : ∃ i, i = 64 + j := ⟨_, rfl⟩
  rw [← hi]
  have q0 : (i : Int) / 64 = 1 := by omega
  have q1 : (i : Int) % 64 = j := by omega
  have q2 : Int.tdiv (i : Int) 64 = 1 := by rw [Int.tdiv_eq_ediv_of_nonneg (by omega)]; exact q0
  have q3 : Int.tmod (i : Int) 64 = j := by rw [Int.tmod_eq_emod_of_nonneg (by omega)]; exact q1
  have q4 : ¬ (j : Int) < 0 := by omega
  have p1 := pow_u64 j hj
  have hp := pow_lt64 hj
  obtain ⟨z, hz⟩ : ∃ z, z = 2 ^ j := ⟨_, rfl⟩
  rw [← hz] at p1 hp hy
  have p2 := andNot_u64 h z hl hp
  rw [← hy] at p2
  clear hz hy hi
  go_enter Try.func123, Try.ntmps123
  go_wp2
  go_region
  all_goals go_wp2
  all_goals exact bodyPost_ret (v := .agg #[.int .i64 e, .int .u64 l, .int .u64 y]) (by simp [results, Try.results123, go_sem]) rfl ⟨rfl, by first | exact ((((Kept.refl _).alloc _).alloc _)) | exact ((((Kept.refl _).alloc _).alloc _)).drew⟩
end Go.Proofs.Ytapniojbnochiaa

/-
  Plain numbers: the swar sum is the number of bits of a word of 64 bits.
-/
namespace Go.Proofs.Ytapniojbnochiaa
open Go.RowKit

/-- The number with these bytes, the least one first. -/
def byN : List Nat → Nat
  | [] => 0
  | a :: l => a + 256 * byN l
def repN (m : Nat) (l : List Nat) : Nat := byN (l.map fun _ => m)
theorem byN_s1 (l : List Nat) (h : ∀ a ∈ l, a < 256) : (byN l / 2 &&& repN 0x55 l) + (byN l &&& repN 0x55 l) = byN (l.map t1) := by
  induction l with
  | nil => simp [byN, repN]
  | cons a l ih =>
    have ha := h a (List.mem_cons_self ..)
    have ih' := ih fun x hx => h x (List.mem_cons_of_mem _ hx)
    have hk := byte1 a ha
    show ((a + 256 * byN l) / 2 &&& (0x55 + 256 * repN 0x55 l)) + ((a + 256 * byN l) &&& (0x55 + 256 * repN 0x55 l)) = t1 a + 256 * byN (l.map t1)
    rw [show (a + 256 * byN l) / 2 = 256 * (byN l / 2) + (a / 2 + 128 * (byN l % 2)) by omega, show a + 256 * byN l = 256 * byN l + a by omega, show 0x55 + 256 * repN 0x55 l = 256 * repN 0x55 l + 0x55 by omega,
      and_256 _ _ _ _ (by omega) (by omega), and_256 _ _ _ _ ha (by omega), ← ih']
    have e : (a / 2 + 128 * (byN l % 2)) &&& 0x55 = a / 2 &&& 0x55 := by
      have : byN l % 2 = 0 ∨ byN l % 2 = 1 := by omega
      rcases this with h | h <;> rw [h]
      · rfl
      · exact hk.1.symm
    rw [e]
    unfold t1
    omega
theorem byN_s2 (l : List Nat) (h : ∀ a ∈ l, a < 171) : (byN l / 4 &&& repN 0x33 l) + (byN l &&& repN 0x33 l) = byN (l.map t2) := by
  induction l with
  | nil => simp [byN, repN]
  | cons a l ih =>
    have ha := h a (List.mem_cons_self ..)
    have ih' := ih fun x hx => h x (List.mem_cons_of_mem _ hx)
    have hk := byte2 a ha (byN l % 4) (by omega)
    show ((a + 256 * byN l) / 4 &&& (0x33 + 256 * repN 0x33 l)) + ((a + 256 * byN l) &&& (0x33 + 256 * repN 0x33 l)) = t2 a + 256 * byN (l.map t2)
    rw [show (a + 256 * byN l) / 4 = 256 * (byN l / 4) + (a / 4 + 64 * (byN l % 4)) by omega, show a + 256 * byN l = 256 * byN l + a by omega, show 0x33 + 256 * repN 0x33 l = 256 * repN 0x33 l + 0x33 by omega,
      and_256 _ _ _ _ (by omega) (by omega), and_256 _ _ _ _ (by omega) (by omega), ← ih', ← hk.1]
    unfold t2
    omega
theorem byN_mod16 (l : List Nat) : byN l % 16 = (l.headD 0) % 16 := by
  cases l with
  | nil => rfl
  | cons a l => show (a + 256 * byN l) % 16 = a % 16; omega
theorem byN_s3 (l : List Nat) (h : ∀ a ∈ l, a < 103 ∧ a % 16 < 7) : (byN l / 16 + byN l) &&& repN 15 l = byN (l.map t3) := by
  induction l with
  | nil => simp [byN, repN]
  | cons a l ih =>
    have ha := h a (List.mem_cons_self ..)
    have ih' := ih fun x hx => h x (List.mem_cons_of_mem _ hx)
    have hm : byN l % 16 < 7 := by
      rw [byN_mod16]
      cases l with
      | nil => decide
      | cons b l => exact (h b (by simp)).2
    have hk := byte3 a ha.1 (byN l % 16) hm
    show ((a + 256 * byN l) / 16 + (a + 256 * byN l)) &&& (15 + 256 * repN 15 l) = t3 a + 256 * byN (l.map t3)
    rw [show (a + 256 * byN l) / 16 + (a + 256 * byN l) = 256 * (byN l / 16 + byN l) + (a / 16 + 16 * (byN l % 16) + a) by omega, show 15 + 256 * repN 15 l = 256 * repN 15 l + 15 by omega,
      and_256 _ _ _ _ (by omega) (by omega), ih', hk.1]
    omega
theorem byN_lt (l : List Nat) (h : ∀ a ∈ l, a < 256) : byN l < 256 ^ l.length := by
  induction l with
  | nil => simp [byN]
  | cons a l ih =>
    have ha := h a (List.mem_cons_self ..)
    have ih' := ih fun x hx => h x (List.mem_cons_of_mem _ hx)
    show a + 256 * byN l < 256 ^ (l.length + 1)
    rw [Nat.pow_succ]
    omega
theorem pc_byN (l : List Nat) (h : ∀ a ∈ l, a < 256) : pc (byN l) = (l.map pc).sum := by
  induction l with
  | nil => simp [byN, pc_zero]
  | cons a l ih =>
    show pc (a + 256 * byN l) = pc a + (l.map pc).sum
    rw [Nat.add_comm, pc_byte_step a _ (h a (List.mem_cons_self ..)), ih fun x hx => h x (List.mem_cons_of_mem _ hx)]
theorem byN_of (n : Nat) (h : n < 18446744073709551616) : ∃ l : List Nat, l.length = 8 ∧ (∀ a ∈ l, a < 256) ∧ n = byN l := by
  refine ⟨[n % 256, n / 256 % 256, n / 65536 % 256, n / 16777216 % 256, n / 4294967296 % 256, n / 1099511627776 % 256, n / 281474976710656 % 256, n / 72057594037927936], rfl, ?_, ?_⟩
  · intro a ha
    simp only [List.mem_cons, List.not_mem_nil, or_false] at ha
    omega
  · simp only [byN]
    omega
theorem byN_102 (l : List Nat) (h : ∀ a ∈ l, a < 103) (k : Nat) (hl : l.length = k) : byN l ≤ 102 * byN (List.replicate k 1) := by
  subst hl
  induction l with
  | nil => simp [byN]
  | cons a l ih =>
    have ha := h a (List.mem_cons_self ..)
    have ih' := ih fun x hx => h x (List.mem_cons_of_mem _ hx)
    show a + 256 * byN l ≤ 102 * (1 + 256 * byN (List.replicate l.length 1))
    omega
theorem div_low (a m b : Nat) (h : a < m) : (a + m * b) / m = b := by rw [Nat.add_mul_div_left _ _ (by omega), Nat.div_eq_of_lt h, Nat.zero_add]
def addL : List Nat → List Nat → List Nat
  | [], r => r
  | a :: l, [] => a :: l
  | a :: l, b :: r => (a + b) :: addL l r
theorem byN_addL : ∀ l r, byN (addL l r) = byN l + byN r
  | [], r => by simp [addL, byN]
  | a :: l, [] => by simp [addL, byN]
  | a :: l, b :: r => by
    show (a + b) + 256 * byN (addL l r) = (a + 256 * byN l) + (b + 256 * byN r)
    rw [byN_addL l r]; omega
theorem addL_lt (x y : Nat) : ∀ l r, (∀ a ∈ l, a < x + 1) → (∀ a ∈ r, a < y + 1) → ∀ a ∈ addL l r, a < x + y + 1
  | [], r, _, h2 => fun a ha => by have := h2 a ha; omega
  | a :: l, [], h1, _ => fun x hx => by have := h1 x hx; omega
  | a :: l, b :: r, h1, h2 => fun z hz => by
    rcases List.mem_cons.1 hz with e | e
    · have := h1 a (by simp); have := h2 b (by simp); omega
    · exact addL_lt x y l r (fun q hq => h1 q (List.mem_cons_of_mem _ hq)) (fun q hq => h2 q (List.mem_cons_of_mem _ hq)) z e
theorem addL_len : ∀ l r : List Nat, r.length ≤ l.length → (addL l r).length = l.length
  | [], r, h => by simpa [addL] using h
  | a :: l, [], _ => rfl
  | a :: l, b :: r, h => by simp only [addL, List.length_cons]; rw [addL_len l r (by simpa using h)]
theorem byN_split : ∀ (k : Nat) (l : List Nat), byN l = byN (l.take k) + 256 ^ k * byN (l.drop k)
  | 0, l => by simp [byN]
  | k + 1, [] => by simp [byN]
  | k + 1, a :: l => by
    show a + 256 * byN l = (a + 256 * byN (l.take k)) + 256 ^ (k + 1) * byN (l.drop k)
    have := byN_split k l
    rw [this, Nat.pow_succ, Nat.mul_add, Nat.mul_comm (256 ^ k) 256, Nat.mul_assoc]; omega
theorem swar_step (f : Int → Int) (k m : Nat) (M : Int) (hM : M = (m : Int)) (hm : m = 256 ^ k) (hf : ∀ x, f x = IntKind.u64.wrap (x + x / M)) (l : List Nat) (hl : l.length = 8) (x : Nat) (hx : ∀ a ∈ l, a < x + 1) (h9 : x + x < 256) :
    f (byN l : Nat) = (byN (addL l (l.drop k)) : Nat) ∧ (addL l (l.drop k)).length = 8 ∧ ∀ a ∈ addL l (l.drop k), a < x + x + 1 := by
  have hb := addL_lt x x l (l.drop k) hx fun a ha => hx a (List.mem_of_mem_drop ha)
  have hlen : (addL l (l.drop k)).length = 8 := by rw [addL_len _ _ (by simp), hl]
  refine ⟨?_, hlen, hb⟩
  have hlt : byN (addL l (l.drop k)) < 18446744073709551616 := by
    have := byN_lt (addL l (l.drop k)) fun a ha => by have := hb a ha; omega
    rw [hlen] at this; exact this
  have ha : byN (l.take k) < m := by
    have := byN_lt (l.take k) fun a ha => by have := hx a (List.mem_of_mem_take ha); omega
    rw [hm]
    exact Nat.lt_of_lt_of_le this (Nat.pow_le_pow_right (by omega) (by simp; omega))
  have hs := byN_split k l
  rw [← hm] at hs
  have hd : byN l / m = byN (l.drop k) := by rw [hs]; exact div_low _ _ _ ha
  rw [hf, hM, show ((byN l : Nat) : Int) / (m : Int) = ((byN l / m : Nat) : Int) by simp, hd, ← Int.natCast_add, ← byN_addL]
  exact wrap_u64 _ hlt
def foldB (l : List Nat) : List Nat := addL (addL (addL l (l.drop 1)) ((addL l (l.drop 1)).drop 2)) ((addL (addL l (l.drop 1)) ((addL l (l.drop 1)).drop 2)).drop 4)
theorem foldB_head (l : List Nat) (hl : l.length = 8) : ∃ r, foldB l = l.sum :: r := by
  match l, hl with
  | [y0, y1, y2, y3, y4, y5, y6, y7], _ =>
    refine ⟨(foldB [y0, y1, y2, y3, y4, y5, y6, y7]).tail, ?_⟩
    simp only [foldB, addL, List.drop, List.tail, List.sum_cons, List.sum_nil]
    exact List.cons_eq_cons.2 ⟨by omega, rfl⟩
theorem byN_64 : ∀ (r : List Nat), (∀ a ∈ r, a < 65) → byN r ≤ 64 * byN (List.replicate r.length 1) := by
  intro r
  induction r with
  | nil => intro _; simp [byN]
  | cons a r ih =>
    intro h
    have h1 := h a (List.mem_cons_self ..)
    have h2 := ih (fun x hx => h x (List.mem_cons_of_mem _ hx))
    show a + 256 * byN r ≤ 64 * (1 + 256 * byN (List.replicate r.length 1))
    omega
theorem swar_end (p q : Nat) (hp : p < 65) (h : p + 256 * q < 9223372036854775808) : bits .and .i64 (wrap64 ((p + 256 * q : Nat) : Int)) 127 = (p : Int) := by
  rw [show wrap64 ((p + 256 * q : Nat) : Int) = ((p + 256 * q : Nat) : Int) from by unfold wrap64; omega, show (127 : Int) = ((127 : Nat) : Int) from rfl, and_i64 _ _ h (by decide)]
  rw [show (127 : Nat) = 2 ^ 7 - 1 from rfl, Nat.and_two_pow_sub_one_eq_mod]
  omega
theorem swar_fold (l : List Nat) (hl : l.length = 8) (hb : ∀ a ∈ l, a < 8 + 1) : s6 (s5 (s4 ((byN l : Nat) : Int))) = ((byN (foldB l) : Nat) : Int) ∧ (foldB l).length = 8 ∧ ∀ a ∈ foldB l, a < 65 := by
  obtain ⟨e1, l1, b1⟩ := swar_step s4 1 256 256 rfl (by decide) (fun _ => rfl) l hl 8 hb (by omega)
  obtain ⟨e2, l2, b2⟩ := swar_step s5 2 65536 65536 rfl (by decide) (fun _ => rfl) _ l1 16 b1 (by omega)
  obtain ⟨e3, l3, b3⟩ := swar_step s6 4 4294967296 4294967296 rfl (by decide) (fun _ => rfl) _ l2 32 b2 (by omega)
  refine ⟨?_, l3, b3⟩
  rw [e1, e2, e3]
  rfl
theorem swar_sum (l : List Nat) (hl : l.length = 8) (hb : ∀ a ∈ l, a < 8 + 1) : bits .and .i64 (wrap64 (s6 (s5 (s4 ((byN l : Nat) : Int))))) 127 = ((l.sum : Nat) : Int) := by
  obtain ⟨e, hlen, hB⟩ := swar_fold l hl hb
  obtain ⟨r, hr⟩ := foldB_head l hl
  have hlt := byN_64 _ hB
  rw [hlen, show byN (List.replicate 8 1) = 72340172838076673 from rfl] at hlt
  rw [e]
  rw [hr] at hlt hB ⊢
  have hp := hB _ (List.mem_cons_self ..)
  exact swar_end _ (byN r) hp (by have : l.sum + 256 * byN r ≤ 64 * 72340172838076673 := hlt; omega)
set_option maxHeartbeats 1000000 in
theorem pcS_word (n : Nat) (h : n < 18446744073709551616) : pcS (n : Int) = (pc n : Nat) := by
  obtain ⟨l, hl, hb, rfl⟩ := byN_of n h
  rw [pc_byN l hb]
  have r1 : repN 0x55 l = 6148914691236517205 := by
    unfold repN
    rw [List.map_const', hl]; rfl
  have r2 : repN 0x33 (l.map t1) = 3689348814741910323 := by
    unfold repN
    rw [List.map_const', List.length_map, hl]; rfl
  have r3 : repN 15 ((l.map t1).map t2) = 1085102592571150095 := by
    unfold repN
    rw [List.map_const', List.length_map, List.length_map, hl]; rfl
  have b1 : ∀ a ∈ l.map t1, a < 171 := by
    intro a ha
    obtain ⟨x, hx, rfl⟩ := List.mem_map.1 ha
    exact (byte1 x (hb x hx)).2
  have b2 : ∀ a ∈ (l.map t1).map t2, a < 103 ∧ a % 16 < 7 := by
    intro a ha
    obtain ⟨x, hx, rfl⟩ := List.mem_map.1 ha
    exact (byte2 x (b1 x hx) 0 (by omega)).2
  have l1 : byN (l.map t1) < 18446744073709551616 := by
    have := byN_lt (l.map t1) fun a ha => by have := b1 a ha; omega
    rw [List.length_map, hl] at this; exact this
  have l2 : byN ((l.map t1).map t2) < 18446744073709551616 := by
    have := byN_lt ((l.map t1).map t2) fun a ha => by have := (b2 a ha).1; omega
    rw [List.length_map, List.length_map, hl] at this; exact this
  have e1 : s1 ((byN l : Nat) : Int) = ((byN (l.map t1) : Nat) : Int) := by
    unfold s1
    have := byN_s1 l hb
    rw [r1] at this
    rw [show ((byN l : Nat) : Int) / 2 = ((byN l / 2 : Nat) : Int) by omega, show (6148914691236517205 : Int) = ((6148914691236517205 : Nat) : Int) from rfl, and_u64 _ _ (by omega) (by decide), and_u64 _ _ h (by decide), ← Int.natCast_add, this]
    exact wrap_u64 _ l1
  have e2 : s2 ((byN (l.map t1) : Nat) : Int) = ((byN ((l.map t1).map t2) : Nat) : Int) := by
    unfold s2
    have := byN_s2 (l.map t1) b1
    rw [r2] at this
    rw [show ((byN (l.map t1) : Nat) : Int) / 4 = ((byN (l.map t1) / 4 : Nat) : Int) by omega, show (3689348814741910323 : Int) = ((3689348814741910323 : Nat) : Int) from rfl, and_u64 _ _ (by omega) (by decide), and_u64 _ _ l1 (by decide), ← Int.natCast_add, this]
    exact wrap_u64 _ l2
  have e3 : s3 ((byN ((l.map t1).map t2) : Nat) : Int) = ((byN (((l.map t1).map t2).map t3) : Nat) : Int) := by
    unfold s3
    have := byN_s3 _ b2
    rw [r3] at this
    have hlt := byN_102 ((l.map t1).map t2) (fun a ha => (b2 a ha).1) 8 (by simp [hl])
    rw [show byN (List.replicate 8 1) = 72340172838076673 from rfl] at hlt
    rw [show ((byN ((l.map t1).map t2) : Nat) : Int) / 16 + ((byN ((l.map t1).map t2) : Nat) : Int) = ((byN ((l.map t1).map t2) / 16 + byN ((l.map t1).map t2) : Nat) : Int) by omega, wrap_u64 _ (by omega), show (1085102592571150095 : Int) = ((1085102592571150095 : Nat) : Int) from rfl, and_u64 _ _ (by omega) (by decide), this]
  unfold pcS
  rw [e1, e2, e3, swar_sum _ (by simp [hl]) (fun a ha => by
    obtain ⟨y, hy, rfl⟩ := List.mem_map.1 ha
    obtain ⟨z, hz, rfl⟩ := List.mem_map.1 hy
    obtain ⟨x, hx, rfl⟩ := List.mem_map.1 hz
    exact byte_pc x (hb x hx))]
  rw [List.map_map, List.map_map]
  congr 2
  exact List.map_congr_left fun x hx => pc_256 x (hb x hx)
end Go.Proofs.Ytapniojbnochiaa

/-
  Walks: the rows of topdown as masks: has, with, without, part, size.
-/
namespace Go.Proofs.Ytapniojbnochiaa
open Go.RowKit

/-- The words of a row. -/
def evW (c : Nat) : Nat := c % 16777216
def loW (c : Nat) : Nat := c / 16777216 % 18446744073709551616
def hiW (c : Nat) : Nat := c / 309485009821345068724781056
theorem evW_bit (c i : Nat) : (evW c).testBit i = (decide (i < 24) && c.testBit i) := by
  unfold evW; rw [show (16777216 : Nat) = 2 ^ 24 from rfl, Nat.testBit_mod_two_pow]
theorem loW_bit (c i : Nat) : (loW c).testBit i = (decide (i < 64) && c.testBit (24 + i)) := by
  unfold loW
  rw [show (18446744073709551616 : Nat) = 2 ^ 64 from rfl, show (16777216 : Nat) = 2 ^ 24 from rfl, Nat.testBit_mod_two_pow, Nat.testBit_div_two_pow, Nat.add_comm]
theorem hiW_bit (c i : Nat) : (hiW c).testBit i = c.testBit (88 + i) := by
  unfold hiW
  rw [show (309485009821345068724781056 : Nat) = 2 ^ 88 from rfl, Nat.testBit_div_two_pow, Nat.add_comm]
theorem evW_lt (c : Nat) : evW c < 16777216 := Nat.mod_lt _ (by decide)
theorem loW_lt (c : Nat) : loW c < 18446744073709551616 := Nat.mod_lt _ (by decide)
theorem hiW_lt {c : Nat} (h : RowLt 152 c) : hiW c < 18446744073709551616 := by
  have := rowLt_num h
  unfold hiW
  refine Nat.div_lt_of_lt_mul ?_
  exact Nat.lt_of_lt_of_le this (by decide)
abbrev rowV (c : Nat) : Value := .agg #[.int .i64 (evW c), .int .u64 (loW c), .int .u64 (hiW c)]
theorem bit_or_pow (c m i : Nat) : (c ||| 2 ^ m).testBit i = (c.testBit i || decide (m = i)) := by
  rw [Nat.testBit_or, Nat.testBit_two_pow]
theorem ev_with {c a : Nat} (h : a < 24) : evW (c ||| 2 ^ a) = evW c ||| 2 ^ a ∧ loW (c ||| 2 ^ a) = loW c ∧ hiW (c ||| 2 ^ a) = hiW c := by
  refine ⟨?_, ?_, ?_⟩ <;> apply Nat.eq_of_testBit_eq <;> intro i
  · rw [evW_bit, bit_or_pow, bit_or_pow, evW_bit]
    by_cases h1 : i < 24
    · simp [h1]
    · simp [h1]; omega
  · rw [loW_bit, bit_or_pow, loW_bit]
    by_cases h1 : i < 64
    · simp [h1]; omega
    · simp [h1]
  · rw [hiW_bit, bit_or_pow, hiW_bit]
    simp; omega
theorem lo_with {c j : Nat} (h : j < 64) : evW (c ||| 2 ^ (24 + j)) = evW c ∧ loW (c ||| 2 ^ (24 + j)) = loW c ||| 2 ^ j ∧ hiW (c ||| 2 ^ (24 + j)) = hiW c := by
  refine ⟨?_, ?_, ?_⟩ <;> apply Nat.eq_of_testBit_eq <;> intro i
  · rw [evW_bit, bit_or_pow, evW_bit]
    by_cases h1 : i < 24
    · simp [h1]; omega
    · simp [h1]
  · rw [loW_bit, bit_or_pow, bit_or_pow, loW_bit]
    by_cases h1 : i < 64
    · simp [h1]
    · simp [h1]; omega
  · rw [hiW_bit, bit_or_pow, hiW_bit]
    simp; omega
theorem hi_with {c j : Nat} : evW (c ||| 2 ^ (24 + (64 + j))) = evW c ∧ loW (c ||| 2 ^ (24 + (64 + j))) = loW c ∧ hiW (c ||| 2 ^ (24 + (64 + j))) = hiW c ||| 2 ^ j := by
  refine ⟨?_, ?_, ?_⟩ <;> apply Nat.eq_of_testBit_eq <;> intro i
  · rw [evW_bit, bit_or_pow, evW_bit]
    by_cases h1 : i < 24
    · simp [h1]; omega
    · simp [h1]
  · rw [loW_bit, bit_or_pow, loW_bit]
    by_cases h1 : i < 64
    · simp [h1]; omega
    · simp [h1]
  · rw [hiW_bit, bit_or_pow, bit_or_pow, hiW_bit]
    congr 1
    rw [decide_eq_decide]; omega
theorem bit_sd_pow (c m i : Nat) : (sdiff c (2 ^ m)).testBit i = (c.testBit i && !decide (m = i)) := by
  rw [sdiff_bit, Nat.testBit_two_pow]
theorem lo_without {c j : Nat} (h : j < 64) : evW (sdiff c (2 ^ (24 + j))) = evW c ∧ loW (sdiff c (2 ^ (24 + j))) = sdiff (loW c) (2 ^ j) ∧ hiW (sdiff c (2 ^ (24 + j))) = hiW c := by
  refine ⟨?_, ?_, ?_⟩ <;> apply Nat.eq_of_testBit_eq <;> intro i
  · rw [evW_bit, bit_sd_pow, evW_bit]
    by_cases h1 : i < 24
    · simp [h1]; omega
    · simp [h1]
  · rw [loW_bit, bit_sd_pow, bit_sd_pow, loW_bit]
    by_cases h1 : i < 64
    · simp [h1]
    · simp [h1]
  · rw [hiW_bit, bit_sd_pow, hiW_bit]
    simp; omega
theorem hi_without {c j : Nat} : evW (sdiff c (2 ^ (24 + (64 + j)))) = evW c ∧ loW (sdiff c (2 ^ (24 + (64 + j)))) = loW c ∧ hiW (sdiff c (2 ^ (24 + (64 + j)))) = sdiff (hiW c) (2 ^ j) := by
  refine ⟨?_, ?_, ?_⟩ <;> apply Nat.eq_of_testBit_eq <;> intro i
  · rw [evW_bit, bit_sd_pow, evW_bit]
    by_cases h1 : i < 24
    · simp [h1]; omega
    · simp [h1]
  · rw [loW_bit, bit_sd_pow, loW_bit]
    by_cases h1 : i < 64
    · simp [h1]; omega
    · simp [h1]
  · rw [hiW_bit, bit_sd_pow, bit_sd_pow, hiW_bit]
    congr 2
    rw [decide_eq_decide]; omega
theorem rhas_any {c : Nat} (hc : RowLt 152 c) (i : Nat) (hi : i < 128) (w : World) : Calls Try.prog 95 #[rowV c, .int .i64 i] w fun e w' => e = .returned (.bool (c.testBit (24 + i))) ∧ Kept w w' := by
  by_cases h : i < 64
  · have := has_lo (evW c) (loW c) (hiW c) i (loW_lt c) h w
    rw [loW_bit, decide_eq_true h, Bool.true_and] at this
    exact this
  · obtain ⟨j, rfl⟩ : ∃ j, i = 64 + j := ⟨i - 64, by omega⟩
    have := has_hi (evW c) (loW c) (hiW c) j (hiW_lt hc) (by omega) w
    rw [hiW_bit, show 88 + j = 24 + (64 + j) by omega] at this
    exact this
theorem rwith_any {c : Nat} (hc : RowLt 152 c) (V : Nat) (v : Value) (T : Int) (hs : ∃ a n c, v = .slice a n c) (hV : V ≤ 24) (a : Int) (ha : 0 ≤ a ∧ a < (V : Int) + 128) (w : World) :
    Calls Try.prog 93 #[rowV c, .agg #[.int .i64 V, v, .int .i64 T], .int .i64 a] w fun e w' => e = .returned (rowV (withC V c a)) ∧ Kept w w' := by
  obtain ⟨A, rfl⟩ := Int.eq_ofNat_of_zero_le ha.1
  unfold withC cond
  by_cases h : A < V
  · rw [if_pos (by omega), Int.toNat_natCast]
    have := with_ev (evW c) (loW c) (hiW c) A V v T hs (evW_lt c) hV h w
    obtain ⟨e1, e2, e3⟩ := ev_with (c := c) (a := A) (by omega)
    unfold rowV
    rw [e1, e2, e3]
    exact this
  · rw [if_neg (by omega)]
    obtain ⟨i, rfl⟩ : ∃ i, A = V + i := ⟨A - V, by omega⟩
    rw [show (((V + i : Nat) : Int) - (V : Int)).toNat = i by omega]
    unfold rowV
    by_cases h6 : i < 64
    · obtain ⟨e1, e2, e3⟩ := lo_with (c := c) (j := i) h6
      rw [e1, e2, e3]
      exact with_lo (evW c) (loW c) (hiW c) i V v T hs (loW_lt c) hV h6 w _ rfl
    · obtain ⟨j, rfl⟩ : ∃ j, i = 64 + j := ⟨i - 64, by omega⟩
      obtain ⟨e1, e2, e3⟩ := hi_with (c := c) (j := j)
      rw [e1, e2, e3]
      exact with_hi (evW c) (loW c) (hiW c) j V v T hs (hiW_lt hc) hV (by omega) w _ rfl
theorem rwithout_any {c : Nat} (hc : RowLt 152 c) (i : Nat) (hi : i < 128) (w : World) : Calls Try.prog 123 #[rowV c, .int .i64 i] w fun e w' => e = .returned (rowV (sdiff c (2 ^ (24 + i)))) ∧ Kept w w' := by
  unfold rowV
  by_cases h6 : i < 64
  · obtain ⟨e1, e2, e3⟩ := lo_without (c := c) (j := i) h6
    rw [e1, e2, e3]
    exact without_lo (evW c) (loW c) (hiW c) i (loW_lt c) h6 w _ rfl
  · obtain ⟨j, rfl⟩ : ∃ j, i = 64 + j := ⟨i - 64, by omega⟩
    obtain ⟨e1, e2, e3⟩ := hi_without (c := c) (j := j)
    rw [e1, e2, e3]
    exact without_hi (evW c) (loW c) (hiW c) j (hiW_lt hc) (by omega) w _ rfl
theorem row_join (c : Nat) : c = 2 ^ 88 * hiW c + (2 ^ 24 * loW c + evW c) := by
  unfold hiW loW evW
  have h1 := Nat.div_add_mod c 16777216
  have h2 := Nat.div_add_mod (c / 16777216) 18446744073709551616
  rw [Nat.div_div_eq_div_mul] at h2
  rw [show (309485009821345068724781056 : Nat) = 16777216 * 18446744073709551616 from rfl, show (2 : Nat) ^ 88 = 16777216 * 18446744073709551616 from rfl, show (2 : Nat) ^ 24 = 16777216 from rfl]
  generalize c / (16777216 * 18446744073709551616) = h at *
  generalize c / 16777216 % 18446744073709551616 = l at *
  omega
theorem pc_split : ∀ k n, n < 2 ^ k → ∀ h, pc (2 ^ k * h + n) = pc n + pc h := by
  intro k
  induction k with
  | zero => intro n hn h; have : n = 0 := by simpa using hn
            subst this; rw [pc_zero]; simp
  | succ k ih =>
    intro n hn h
    rw [pc_one, pc_one n]
    have e1 : (2 ^ (k + 1) * h + n) % 2 = n % 2 := by rw [Nat.pow_succ, Nat.mul_comm (2 ^ k) 2, Nat.mul_assoc]; omega
    have e2 : (2 ^ (k + 1) * h + n) / 2 = 2 ^ k * h + n / 2 := by rw [Nat.pow_succ, Nat.mul_comm (2 ^ k) 2, Nat.mul_assoc]; omega
    rw [e1, e2, ih (n / 2) (by rw [Nat.pow_succ] at hn; omega) h]
    omega
theorem pc_row (c : Nat) : pc c = pc (evW c) + pc (loW c) + pc (hiW c) := by
  have h := row_join c
  have h1 := evW_lt c
  have h2 := loW_lt c
  have e1 : 2 ^ 24 * loW c + evW c < 2 ^ 88 := by
    rw [show (2 : Nat) ^ 24 = 16777216 from rfl, show (2 : Nat) ^ 88 = 309485009821345068724781056 from rfl]; omega
  conv => lhs; rw [h]
  rw [pc_split 88 _ e1, pc_split 24 _ (by rw [show (2 : Nat) ^ 24 = 16777216 from rfl]; exact h1)]
theorem sub_row (a b : Nat) : subN a b = (subN (evW a) (evW b) && (subN (loW a) (loW b) && subN (hiW a) (hiW b))) := by
  rw [Bool.eq_iff_iff, Bool.and_eq_true, Bool.and_eq_true, subN_iff, subN_iff, subN_iff, subN_iff]
  constructor
  · intro h
    refine ⟨fun i hi => ?_, fun i hi => ?_, fun i hi => ?_⟩
    · rw [evW_bit] at hi ⊢; simp at hi ⊢; exact ⟨hi.1, h i hi.2⟩
    · rw [loW_bit] at hi ⊢; simp at hi ⊢; exact ⟨hi.1, h _ hi.2⟩
    · rw [hiW_bit] at hi ⊢; exact h _ hi
  · rintro ⟨h1, h2, h3⟩ i hi
    by_cases c1 : i < 24
    · have := h1 i (by rw [evW_bit]; simp [c1, hi])
      rw [evW_bit] at this; simp at this; exact this.2
    · by_cases c2 : i < 88
      · have := h2 (i - 24) (by rw [loW_bit, show 24 + (i - 24) = i by omega]; simp [hi]; omega)
        rw [loW_bit, show 24 + (i - 24) = i by omega] at this; simp at this; exact this.2
      · have := h3 (i - 88) (by rw [hiW_bit, show 88 + (i - 88) = i by omega]; exact hi)
        rw [hiW_bit, show 88 + (i - 88) = i by omega] at this; exact this
theorem pc_lt (n : Nat) : ∀ c, c < 2 ^ n → pc c ≤ n := by
  induction n with
  | zero => intro c h; have : c = 0 := by simpa using h
            subst this; rw [pc_zero]; omega
  | succ n ih =>
    intro c h
    rw [pc_one]
    have := ih (c / 2) (by rw [Nat.pow_succ] at h; omega)
    omega
theorem sub_i64 (a b : Nat) (ha : a < 9223372036854775808) (hb : b < 9223372036854775808) : (bits .andNot .i64 (a : Int) (b : Int) == 0) = subN a b := by
  rw [andNot_i64 a b ha hb]
  unfold subN
  rw [Bool.eq_iff_iff]; simp
theorem sub_u64 (a b : Nat) (ha : a < 18446744073709551616) (hb : b < 18446744073709551616) : (bits .andNot .u64 (a : Int) (b : Int) == 0) = subN a b := by
  rw [andNot_u64 a b ha hb]
  unfold subN
  rw [Bool.eq_iff_iff]; simp
theorem rpart_any {a b : Nat} (ha : RowLt 152 a) (hb : RowLt 152 b) (w : World) : Calls Try.prog 131 #[rowV a, rowV b] w fun e w' => e = .returned (.bool (subN a b)) ∧ ∃ C O, w' = (w.alloc C).alloc O := by
  have b1 := sub_i64 (evW a) (evW b) (by have := evW_lt a; omega) (by have := evW_lt b; omega)
  have b2 := sub_u64 (loW a) (loW b) (loW_lt a) (loW_lt b)
  have b3 := sub_u64 (hiW a) (hiW b) (hiW_lt ha) (hiW_lt hb)
  rw [sub_row]
  generalize subN (evW a) (evW b) = x1 at *
  generalize subN (loW a) (loW b) = x2 at *
  generalize subN (hiW a) (hiW b) = x3 at *
  unfold rowV
  generalize evW a = ea at *
  generalize evW b = eb at *
  generalize loW a = la at *
  generalize loW b = lb at *
  generalize hiW a = za at *
  generalize hiW b = zb at *
  clear ha hb
  cases x1 with
  | false =>
    go_enter Try.func131, Try.ntmps131
    go_wp2
    go_ret
    exact ⟨rfl, _, _, rfl⟩
  | true =>
    cases x2 with
    | false =>
      go_enter Try.func131, Try.ntmps131
      go_wp2
      go_ret
      exact ⟨rfl, _, _, rfl⟩
    | true =>
      go_enter Try.func131, Try.ntmps131
      go_wp2
      go_ret
      exact ⟨by cases x3 <;> rfl, _, _, rfl⟩
theorem rsize_any {c : Nat} (hc : RowLt 152 c) (w : World) : Calls Try.prog 128 #[rowV c] w fun e w' => e = .returned (.int .i64 (pc c)) ∧ ∃ C n, w' = (w.alloc C).drewN n := by
  have h1 : ∀ W, Calls Try.prog 84 #[.int .i64 (evW c)] W fun e w' => e = .returned (.int .i64 (pc (evW c))) ∧ w' = W := fun W => (count_any (evW_lt c) W).mono fun _ _ h => ⟨h.1, h.2.symm⟩
  have h2 : ∀ W, Calls Try.prog 156 #[.int .u64 (loW c)] W fun e w' => e = .returned (.int .i64 (pc (loW c))) ∧ w' = W := fun W => (ones64_any _ W).mono fun _ _ h => ⟨by rw [h.1, pcS_word _ (loW_lt c)], h.2.symm⟩
  have h3 : ∀ W, Calls Try.prog 156 #[.int .u64 (hiW c)] W fun e w' => e = .returned (.int .i64 (pc (hiW c))) ∧ w' = W := fun W => (ones64_any _ W).mono fun _ _ h => ⟨by rw [h.1, pcS_word _ (hiW_lt hc)], h.2.symm⟩
  have e1 := pc_lt 24 (evW c) (evW_lt c)
  have e2 := pc_lt 64 (loW c) (loW_lt c)
  have e3 := pc_lt 64 (hiW c) (hiW_lt hc)
  rw [pc_row c]
  unfold rowV
  generalize pc (evW c) = p1 at *
  generalize pc (loW c) = p2 at *
  generalize pc (hiW c) = p3 at *
  generalize evW c = ea at *
  generalize loW c = la at *
  generalize hiW c = za at *
  have H1 := Lib.hid h1
  have H2 := Lib.hid h2
  have H3 := Lib.hid h3
  have w1 : IntKind.i64.wrap ((p1 : Int) + (p2 : Int)) = (p1 : Int) + (p2 : Int) := by rw [IntKind.wrap_i64]; omega
  have w2 : IntKind.i64.wrap ((p1 : Int) + (p2 : Int) + (p3 : Int)) = (p1 : Int) + (p2 : Int) + (p3 : Int) := by rw [IntKind.wrap_i64]; omega
  clear h1 h2 h3 hc
  go_enter Try.func128, Try.ntmps128
  go_wp2
  go_quiet ((first | (go_at_call 84; exact Calls.quiet_of_same (H1.out _)) | (go_at_call 156; (with_reducible exact Calls.quiet_of_same (H2.out _))) | (go_at_call 156; (with_reducible exact Calls.quiet_of_same (H3.out _)))))
  go_wp2
  go_ret
  exact ⟨by simp, _, _, rfl⟩
end Go.Proofs.Ytapniojbnochiaa

/-
  Plain: the stable merge of slices.SortStableFunc on arrays: what swapRange, rotate and symMerge lay; that a merge of sorted parts is sorted.
-/
namespace Go.Proofs.Ytapniojbnochiaa
open Go.Sort

section
variable {α : Type}
def swF (a b n : Nat) (f : Nat → α) (x : Nat) : α := if a ≤ x ∧ x < a + n then f (x + (b - a)) else if b ≤ x ∧ x < b + n then f (x - (b - a)) else f x
def rotF (a m b : Nat) (f : Nat → α) (x : Nat) : α := if a ≤ x ∧ x < a + (b - m) then f (x + (m - a)) else if a + (b - m) ≤ x ∧ x < b then f (x - (b - m)) else f x
theorem swF_zero (a b : Nat) (f : Nat → α) (x : Nat) : swF a b 0 f x = f x := by
  unfold swF; rw [if_neg (by omega), if_neg (by omega)]
theorem swF_step (a b n : Nat) (f : Nat → α) (h : a + n < b) (x : Nat) :
    (if x = b + n then swF a b n f (a + n) else if x = a + n then swF a b n f (b + n) else swF a b n f x) = swF a b (n + 1) f x := by
  unfold swF
  by_cases h1 : x = b + n
  · subst h1
    rw [if_pos rfl, if_neg (by omega), if_neg (by omega), if_neg (by omega), if_pos (by omega)]
    congr 1; omega
  · rw [if_neg h1]
    by_cases h2 : x = a + n
    · subst h2
      rw [if_pos rfl, if_neg (by omega), if_neg (by omega), if_pos (by omega)]
      congr 1; omega
    · rw [if_neg h2]
      by_cases h3 : a ≤ x ∧ x < a + n
      · rw [if_pos h3, if_pos (by omega)]
      · rw [if_neg h3]
        by_cases h4 : b ≤ x ∧ x < b + n
        · rw [if_pos h4, if_neg (by omega), if_pos (by omega)]
        · rw [if_neg h4, if_neg (by omega), if_neg (by omega)]
theorem rot_gt (m i j : Nat) (hi : i ≤ m) (hj : j < i) (f : Nat → α) (x : Nat) : rotF (m - (i - j)) m (m + j) (swF (m - i) m j f) x = rotF (m - i) m (m + j) f x := by
  unfold rotF swF
  repeat' split
  all_goals first | (exfalso; omega) | rfl | (congr 1 <;> omega)
theorem rot_lt (m i j : Nat) (hi : i ≤ m) (hj : i < j) (f : Nat → α) (x : Nat) : rotF (m - i) m (m + (j - i)) (swF (m - i) (m + j - i) i f) x = rotF (m - i) m (m + j) f x := by
  unfold rotF swF
  repeat' split
  all_goals first | (exfalso; omega) | rfl | (congr 1 <;> omega)
theorem rot_eq (m i : Nat) (hi : i ≤ m) (f : Nat → α) (x : Nat) : swF (m - i) m i f x = rotF (m - i) m (m + i) f x := by
  unfold rotF swF
  repeat' split
  all_goals first | (exfalso; omega) | rfl | (congr 1 <;> omega)
theorem rot_up (a k : Nat) (h : a ≤ k) (f : Nat → α) (x : Nat) :
    (if x = k + 1 then rotF a (a + 1) (k + 1) f k else if x = k then rotF a (a + 1) (k + 1) f (k + 1) else rotF a (a + 1) (k + 1) f x) = rotF a (a + 1) (k + 2) f x := by
  unfold rotF
  repeat' split
  all_goals first | (exfalso; omega) | rfl | (congr 1 <;> omega)
theorem rot_down (k m : Nat) (h : k + 1 ≤ m) (f : Nat → α) (x : Nat) :
    (if x = k then rotF (k + 1) m (m + 1) f (k + 1) else if x = k + 1 then rotF (k + 1) m (m + 1) f k else rotF (k + 1) m (m + 1) f x) = rotF k m (m + 1) f x := by
  unfold rotF
  repeat' split
  all_goals first | (exfalso; omega) | rfl | (congr 1 <;> omega)
theorem rot_left (a b : Nat) (f : Nat → α) (x : Nat) : rotF a a b f x = f x := by
  unfold rotF
  repeat' split
  all_goals first | (exfalso; omega) | rfl | (congr 1 <;> omega)
theorem rot_right (a b : Nat) (f : Nat → α) (x : Nat) : rotF a b b f x = f x := by
  unfold rotF
  repeat' split
  all_goals first | (exfalso; omega) | rfl | (congr 1 <;> omega)
end
section
variable {α : Type} [Inhabited α] {lt : α → α → Bool}
def atA (d : Array α) (x : Nat) : α := d[x]!
/-- d' is d with the blocks [a, m) and [m, b) in the other order. -/
def Rot (a m b : Nat) (d d' : Array α) : Prop := PermIn a b d d' ∧ ∀ x, d'[x]! = rotF a m b (atA d) x
def Swd (a b n : Nat) (d d' : Array α) : Prop := PermIn a (b + n) d d' ∧ ∀ x, d'[x]! = swF a b n (atA d) x
theorem Swd.start (a b : Nat) (d : Array α) : Swd a b 0 d d := ⟨permIn_refl _ _ _, fun x => (swF_zero a b (atA d) x).symm⟩
theorem Swd.step {a b n : Nat} {d d' : Array α} (h : Swd a b n d d') (h1 : a + n < b) (h2 : b + n < d.size) : Swd a b (n + 1) d (swp d' (a + n) (b + n)) := by
  have hs : d'.size = d.size := h.1.1
  refine ⟨permIn_trans _ _ _ _ _ (permIn_mono _ _ _ _ _ _ (Nat.le_refl _) (by omega) (by omega) h.1) (swp_permIn _ _ _ _ _ (by omega) (by omega) (by omega) (by omega) (by omega)), fun x => ?_⟩
  rw [Go.Sort.swp_get d' (by omega) (by omega), ← swF_step a b n (atA d) h1 x, h.2, h.2, h.2]
/-- rotate's loop: what is still to be turned. -/
def RotTo (a m b : Nat) (d : Array α) (i j : Nat) (dk : Array α) : Prop := PermIn a b d dk ∧ (∀ x, rotF (m - i) m (m + j) (atA dk) x = rotF a m b (atA d) x) ∧ a ≤ m - i ∧ i ≤ m ∧ m + j ≤ b
theorem RotTo.start {a m b : Nat} (d : Array α) (h1 : a ≤ m) (h2 : m ≤ b) : RotTo a m b d (m - a) (b - m) d :=
  ⟨permIn_refl _ _ _, fun x => by rw [show m - (m - a) = a by omega, show m + (b - m) = b by omega], by omega, by omega, by omega⟩
theorem RotTo.right {a m b i j : Nat} {d dk dn : Array α} (h : RotTo a m b d i j dk) (hb : b ≤ d.size) (hj : j < i) (hs : Swd (m - i) m j dk dn) : RotTo a m b d (i - j) j dn := by
  obtain ⟨h1, h2, h3, h4, h5⟩ := h
  refine ⟨permIn_trans _ _ _ _ _ h1 (permIn_mono _ _ _ _ _ _ h3 h5 (by rw [h1.1]; exact hb) hs.1), fun x => ?_, by omega, by omega, h5⟩
  rw [← h2, ← rot_gt m i j h4 hj (atA dk) x]
  have e : atA dn = swF (m - i) m j (atA dk) := funext hs.2
  rw [e]
theorem RotTo.left {a m b i j : Nat} {d dk dn : Array α} (h : RotTo a m b d i j dk) (hb : b ≤ d.size) (hj : i < j) (hs : Swd (m - i) (m + j - i) i dk dn) : RotTo a m b d i (j - i) dn := by
  obtain ⟨h1, h2, h3, h4, h5⟩ := h
  refine ⟨permIn_trans _ _ _ _ _ h1 (permIn_mono _ _ _ _ _ _ h3 (by omega) (by rw [h1.1]; exact hb) hs.1), fun x => ?_, h3, h4, by omega⟩
  rw [← h2, ← rot_lt m i j h4 hj (atA dk) x]
  have e : atA dn = swF (m - i) (m + j - i) i (atA dk) := funext hs.2
  rw [e]
theorem RotTo.done {a m b i : Nat} {d dk dn : Array α} (h : RotTo a m b d i i dk) (hb : b ≤ d.size) (hs : Swd (m - i) m i dk dn) : Rot a m b d dn := by
  obtain ⟨h1, h2, h3, h4, h5⟩ := h
  refine ⟨permIn_trans _ _ _ _ _ h1 (permIn_mono _ _ _ _ _ _ h3 h5 (by rw [h1.1]; exact hb) hs.1), fun x => ?_⟩
  rw [← h2, ← rot_eq m i h4 (atA dk) x]
  exact hs.2 x
theorem Rot.one (a : Nat) (d : Array α) : Rot a (a + 1) (a + 1) d d := ⟨permIn_refl _ _ _, fun x => (rot_right a (a + 1) (atA d) x).symm⟩
theorem Rot.up {a k : Nat} {d d' : Array α} (h : Rot a (a + 1) (k + 1) d d') (hk : a ≤ k) (hb : k + 1 < d.size) : Rot a (a + 1) (k + 2) d (swp d' k (k + 1)) := by
  have hs : d'.size = d.size := h.1.1
  refine ⟨permIn_trans _ _ _ _ _ (permIn_mono _ _ _ _ _ _ (Nat.le_refl _) (by omega) (by omega) h.1) (swp_permIn _ _ _ _ _ (by omega) (by omega) (by omega) (by omega) (by omega)), fun x => ?_⟩
  rw [Go.Sort.swp_get d' (by omega) (by omega), ← rot_up a k hk (atA d) x, h.2, h.2, h.2]
theorem Rot.none (m b : Nat) (d : Array α) : Rot m m b d d := ⟨permIn_refl _ _ _, fun x => (rot_left m b (atA d) x).symm⟩
theorem Rot.down {k m : Nat} {d d' : Array α} (h : Rot (k + 1) m (m + 1) d d') (hk : k + 1 ≤ m) (hb : m < d.size) : Rot k m (m + 1) d (swp d' (k + 1) k) := by
  have hs : d'.size = d.size := h.1.1
  refine ⟨permIn_trans _ _ _ _ _ (permIn_mono _ _ _ _ _ _ (by omega) (Nat.le_refl _) (by omega) h.1) (swp_permIn _ _ _ _ _ (by omega) (by omega) (by omega) (by omega) (by omega)), fun x => ?_⟩
  rw [Go.Sort.swp_get d' (by omega) (by omega), ← rot_down k m hk (atA d) x, h.2, h.2, h.2]
/-- A merge. -/
def Mrg (lt : α → α → Bool) (a b : Nat) (d d' : Array α) : Prop := PermIn a b d d' ∧ SortedIn lt a b d'
omit [Inhabited α] in
theorem le_trans' (hS : SWO lt) {x y z : α} (h1 : lt y x = false) (h2 : lt z y = false) : lt z x = false := hS.ntrans z y x h2 h1
theorem sorted_le (hS : SWO lt) {a b : Nat} {d : Array α} (h : SortedIn lt a b d) {i j : Nat} (hi : a ≤ i) (hij : i ≤ j) (hj : j < b) : lt d[j]! d[i]! = false := by
  by_cases e : i = j
  · subst e; exact hS.irrefl _
  · exact h i j hi (by omega) hj
/-- One element put in from the left. -/
theorem mrg_left (hS : SWO lt) {a i b : Nat} {d d' : Array α} (hR : Rot a (a + 1) i d d') (hi : a + 1 ≤ i) (hib : i ≤ b) (hbs : b ≤ d.size) (hs : SortedIn lt (a + 1) b d) (h1 : ∀ x, a + 1 ≤ x → x < i → lt d[x]! d[a]! = true) (h2 : ∀ x, i ≤ x → x < b → lt d[x]! d[a]! = false) : Mrg lt a b d d' := by
  refine ⟨permIn_mono _ _ _ _ _ _ (Nat.le_refl _) hib hbs hR.1, fun p q hp hpq hq => ?_⟩
  rw [hR.2, hR.2]
  unfold rotF atA
  by_cases c1 : q < i - 1
  · rw [if_pos (by omega), if_pos (by omega)]
    exact sorted_le hS hs (by omega) (by omega) (by omega)
  · by_cases c2 : q = i - 1
    · rw [if_neg (by omega), if_pos (by omega), if_pos (by omega)]
      have e : q - (i - (a + 1)) = a := by omega
      rw [e]
      exact hS.asymm (h1 _ (by omega) (by omega))
    · by_cases c3 : p < i - 1
      · rw [if_neg (by omega), if_neg (by omega), if_pos (by omega)]
        exact sorted_le hS hs (by omega) (by omega) (by omega)
      · by_cases c4 : p = i - 1
        · rw [if_neg (by omega), if_neg (by omega), if_neg (by omega), if_pos (by omega)]
          rw [show p - (i - (a + 1)) = a by omega]
          exact h2 q (by omega) hq
        · rw [if_neg (by omega), if_neg (by omega), if_neg (by omega), if_neg (by omega)]
          exact sorted_le hS hs (by omega) (by omega) (by omega)
/-- One element put in from the right. -/
theorem mrg_right (hS : SWO lt) {a i m : Nat} {d d' : Array α} (hR : Rot i m (m + 1) d d') (hi : a ≤ i) (him : i ≤ m) (hbs : m + 1 ≤ d.size) (hs : SortedIn lt a m d) (h1 : ∀ x, a ≤ x → x < i → lt d[m]! d[x]! = false) (h2 : ∀ x, i ≤ x → x < m → lt d[m]! d[x]! = true) : Mrg lt a (m + 1) d d' := by
  refine ⟨permIn_mono _ _ _ _ _ _ hi (Nat.le_refl _) hbs hR.1, fun p q hp hpq hq => ?_⟩
  rw [hR.2, hR.2]
  unfold rotF atA
  by_cases c1 : q < i
  · rw [if_neg (by omega), if_neg (by omega), if_neg (by omega), if_neg (by omega)]
    exact sorted_le hS hs (by omega) (by omega) (by omega)
  · by_cases c2 : q = i
    · rw [if_pos (by omega), if_neg (by omega), if_neg (by omega)]
      rw [show q + (m - i) = m by omega]
      exact h1 p hp (by omega)
    · by_cases c3 : p < i
      · rw [if_neg (by omega), if_pos (by omega), if_neg (by omega), if_neg (by omega)]
        exact sorted_le hS hs (by omega) (by omega) (by omega)
      · by_cases c4 : p = i
        · rw [if_neg (by omega), if_pos (by omega), if_pos (by omega)]
          rw [show p + (m - i) = m by omega]
          exact hS.asymm (h2 _ (by omega) (by omega))
        · rw [if_neg (by omega), if_pos (by omega), if_neg (by omega), if_pos (by omega)]
          exact sorted_le hS hs (by omega) (by omega) (by omega)
/-- What symMerge's search finds. -/
structure Cutd (lt : α → α → Bool) (a m b mid s : Nat) (d : Array α) : Prop where
  h1 : a ≤ s
  h2 : s ≤ m
  h3 : s ≤ mid
  h4 : m ≤ mid + m - s
  h5 : mid + m - s ≤ b
  low : (mid < m ∧ s = mid + m - b) ∨ (m ≤ mid ∧ s = a) ∨ (a < s ∧ mid + m - s < b ∧ lt d[mid + m - s]! d[s - 1]! = false)
  high : (mid < m ∧ s = mid) ∨ (m ≤ mid ∧ s = m) ∨ (s < m ∧ m < mid + m - s ∧ lt d[mid + m - s - 1]! d[s]! = true)
theorem mrg_parts (hS : SWO lt) {a m b mid s : Nat} {d d1 d2 d3 : Array α} (ham : a < m) (hmb : m < b) (hmid : mid = (a + b) / 2) (hb : b ≤ d.size) (hl : SortedIn lt a m d) (hr : SortedIn lt m b d) (hc : Cutd lt a m b mid s d)
    (hR : Rot s m (mid + m - s) d d1) (h2 : Mrg lt a mid d1 d2) (h3 : Mrg lt mid b d2 d3) : Mrg lt a b d d3 := by
  obtain ⟨c1, c2, c3, c4, c5, cl, ch⟩ := hc
  have hs1 : d1.size = d.size := hR.1.1
  have hs2 : d2.size = d.size := h2.1.1.trans hs1
  have p1 : PermIn a b d d1 := permIn_mono _ _ _ _ _ _ c1 c5 hb hR.1
  have p2 : PermIn a b d1 d2 := permIn_mono _ _ _ _ _ _ (Nat.le_refl _) (by omega) (by omega) h2.1
  have p3 : PermIn a b d2 d3 := permIn_mono _ _ _ _ _ _ (by omega) (Nat.le_refl _) (by omega) h3.1
  refine ⟨permIn_trans _ _ _ _ _ (permIn_trans _ _ _ _ _ p1 p2) p3, fun p q hp hpq hq => ?_⟩
  -- cross
  have cross1 : ∀ i j, a ≤ i → i < mid → mid ≤ j → j < b → lt d1[j]! d1[i]! = false := by
    intro i j hi1 hi2 hj1 hj2
    rw [hR.2, hR.2]
    unfold rotF atA
    have ll : ∀ i j, a ≤ i → i < s → s ≤ j → j < m → lt d[j]! d[i]! = false := fun i j h1 h2 h3 h4 => sorted_le hS hl h1 (by omega) h4
    have rr : ∀ i j, m ≤ i → i < mid + m - s → mid + m - s ≤ j → j < b → lt d[j]! d[i]! = false := fun i j h1 h2 h3 h4 => sorted_le hS hr h1 (by omega) h4
    have lr : ∀ i j, a ≤ i → i < s → mid + m - s ≤ j → j < b → lt d[j]! d[i]! = false := by
      intro i j h1 h2 h3 h4
      rcases cl with cl | cl | cl
      · omega
      · omega
      · exact le_trans' hS (le_trans' hS (sorted_le hS hl h1 (show i ≤ s - 1 by omega) (by omega)) cl.2.2) (sorted_le hS hr (by omega) h3 h4)
    have rl : ∀ i j, m ≤ i → i < mid + m - s → s ≤ j → j < m → lt d[j]! d[i]! = false := by
      intro i j h1 h2 h3 h4
      rcases ch with ch | ch | ch
      · omega
      · omega
      · exact le_trans' hS (le_trans' hS (sorted_le hS hr h1 (show i ≤ mid + m - s - 1 by omega) (by omega)) (hS.asymm ch.2.2)) (sorted_le hS hl (by omega) h3 h4)
    by_cases k1 : i < s
    · have ei : (if s ≤ i ∧ i < s + (mid + m - s - m) then d[i + (m - s)]! else if s + (mid + m - s - m) ≤ i ∧ i < mid + m - s then d[i - (mid + m - s - m)]! else d[i]!) = d[i]! := by rw [if_neg (by omega), if_neg (by omega)]
      rw [ei]
      by_cases k2 : j < mid + m - s
      · rw [if_neg (by omega), if_pos (by omega)]
        exact ll _ _ hi1 k1 (by omega) (by omega)
      · rw [if_neg (by omega), if_neg (by omega)]
        exact lr _ _ hi1 k1 (by omega) hj2
    · have ei : (if s ≤ i ∧ i < s + (mid + m - s - m) then d[i + (m - s)]! else if s + (mid + m - s - m) ≤ i ∧ i < mid + m - s then d[i - (mid + m - s - m)]! else d[i]!) = d[i + (m - s)]! := by rw [if_pos (by omega)]
      rw [ei]
      by_cases k2 : j < mid + m - s
      · rw [if_neg (by omega), if_pos (by omega)]
        exact rl _ _ (by omega) (by omega) (by omega) (by omega)
      · rw [if_neg (by omega), if_neg (by omega)]
        exact rr _ _ (by omega) (by omega) (by omega) hj2
  have cross2 : ∀ i j, a ≤ i → i < mid → mid ≤ j → j < b → lt d2[j]! d2[i]! = false := by
    intro i j hi1 hi2 hj1 hj2
    rw [h2.1.2.1 j (by omega)]
    exact permIn_all d1 d2 a mid (fun x => lt d1[j]! x = false) (by omega) h2.1 (fun i h1 h2 => cross1 i j h1 h2 hj1 hj2) i hi1 hi2
  have cross3 : ∀ i j, a ≤ i → i < mid → mid ≤ j → j < b → lt d3[j]! d3[i]! = false := by
    intro i j hi1 hi2 hj1 hj2
    rw [h3.1.2.1 i (by omega)]
    exact permIn_all d2 d3 mid b (fun x => lt x d2[i]! = false) (by omega) h3.1 (fun j h1 h2 => cross2 i j hi1 hi2 h1 h2) j hj1 hj2
  by_cases k1 : q < mid
  · have s3 : ∀ x, x < mid → d3[x]! = d2[x]! := fun x hx => h3.1.2.1 x (by omega)
    rw [s3 q k1, s3 p (by omega)]
    exact h2.2 p q hp hpq k1
  · by_cases k2 : p < mid
    · exact cross3 p q hp k2 (by omega) hq
    · exact h3.2 p q (by omega) hpq hq
end
end Go.Proofs.Ytapniojbnochiaa

/-
  Walks: slices.SortStableFunc at the rows of topdown: the closure, insertionSort's contract laid, swapRange, rotate.
-/
namespace Go.Proofs.Ytapniojbnochiaa
open Go.Shelf Go.RowKit Go.Lib Go.Sort

def rcells (c : Nat) : List Value := [.int .i64 (evW c), .int .u64 (loW c), .int .u64 (hiW c)]
/-- A number as a row: its low bits. -/
def lowR (c : Nat) : Nat := c % 5708990770823839524233143877797980545530986496
theorem lowR_lt (c : Nat) : RowLt 152 (lowR c) := rowLt_of_num (Nat.lt_of_lt_of_le (Nat.mod_lt _ (by decide)) (by decide))
theorem lowR_of {c : Nat} (h : RowLt 152 c) : lowR c = c := Nat.mod_eq_of_lt (Nat.lt_of_lt_of_le (rowLt_num h) (by decide))
def encR (c : Nat) : List Value := rcells (lowR c)
def cfR (a b : Nat) : Int := (pc (lowR a) : Int) - (pc (lowR b) : Int)
theorem ltR (a b : Nat) : ltOf cfR a b = decide (pc (lowR a) < pc (lowR b)) := by
  unfold ltOf cfR
  rw [decide_eq_decide]; omega
theorem swoR : SWO (ltOf cfR) where
  irrefl x := by rw [ltR]; simp
  trans x y z h1 h2 := by rw [ltR] at *; simp at *; omega
  ntrans x y z h1 h2 := by rw [ltR] at *; simp at *; omega
theorem drewN_alloc_grow (w : World) (C : Obj) (n : Nat) : (w.alloc C).drewN n = grow (w.drewN n) #[C] := by
  rw [alloc_eq_grow]; rfl
theorem grow_two (W : World) (X Y : Obj) (n : Nat) (os : Array Obj) : grow (((W.alloc X).alloc Y).drewN n) os = grow (W.drewN n) (#[X] ++ (#[Y] ++ os)) := by
  rw [alloc_eq_grow, alloc_eq_grow]
  show grow (grow (grow (W.drewN n) #[X]) #[Y]) os = _
  rw [grow_grow, grow_grow]
set_option maxRecDepth 100000 in
theorem leastCmp (x y : Nat) (W : World) : Calls Try.prog 127 #[.agg (encR x).toArray, .agg (encR y).toArray] W fun e w' => e = .returned (.int .i64 (cfR x y)) ∧ ∃ q os', w' = grow (W.drewN q) os' := by
  have hx : ∀ W', Calls Try.prog 128 #[.agg (encR x).toArray] W' fun e w' => e = .returned (.int .i64 (pc (lowR x))) ∧ ∃ q os', w' = grow (W'.drewN q) os' := fun W' => (rsize_any (lowR_lt x) W').mono fun _ _ ⟨h1, C, n, h2⟩ => ⟨h1, n, _, h2.trans (drewN_alloc_grow W' C n)⟩
  have hy : ∀ W', Calls Try.prog 128 #[.agg (encR y).toArray] W' fun e w' => e = .returned (.int .i64 (pc (lowR y))) ∧ ∃ q os', w' = grow (W'.drewN q) os' := fun W' => (rsize_any (lowR_lt y) W').mono fun _ _ ⟨h1, C, n, h2⟩ => ⟨h1, n, _, h2.trans (drewN_alloc_grow W' C n)⟩
  have bx := pc_lt 152 (lowR x) (rowLt_num (lowR_lt x))
  have by' := pc_lt 152 (lowR y) (rowLt_num (lowR_lt y))
  unfold cfR
  unfold encR rcells at *
  generalize pc (lowR x) = px at *
  generalize pc (lowR y) = py at *
  generalize evW (lowR x) = x0 at *
  generalize loW (lowR x) = x1 at *
  generalize hiW (lowR x) = x2 at *
  generalize evW (lowR y) = y0 at *
  generalize loW (lowR y) = y1 at *
  generalize hiW (lowR y) = y2 at *
  have w1 : IntKind.i64.wrap ((px : Int) - (py : Int)) = (px : Int) - (py : Int) := by rw [IntKind.wrap_i64]; omega
  have mixed : Try.prog.follows .mixedOrders = true := by kernel_rfl
  have cx : ∀ n os, (grow ((((W.alloc (.cells #[.int .i64 x0, .int .u64 x1, .int .u64 x2] 95)).alloc (.cells #[.int .i64 y0, .int .u64 y1, .int .u64 y2] 95))).drewN n) os).cell? ⟨W.heap.size, 0, none⟩ = some (.int .i64 x0) ∧ (grow ((((W.alloc (.cells #[.int .i64 x0, .int .u64 x1, .int .u64 x2] 95)).alloc (.cells #[.int .i64 y0, .int .u64 y1, .int .u64 y2] 95))).drewN n) os).cell? ⟨W.heap.size, 1, none⟩ = some (.int .u64 x1) ∧ (grow ((((W.alloc (.cells #[.int .i64 x0, .int .u64 x1, .int .u64 x2] 95)).alloc (.cells #[.int .i64 y0, .int .u64 y1, .int .u64 y2] 95))).drewN n) os).cell? ⟨W.heap.size, 2, none⟩ = some (.int .u64 x2) := fun n os => by
    refine ⟨?_, ?_, ?_⟩ <;> (rw [cell?_grow _ _ _ (by simp; omega)]; simp)
  have cy : ∀ n os, (grow ((((W.alloc (.cells #[.int .i64 x0, .int .u64 x1, .int .u64 x2] 95)).alloc (.cells #[.int .i64 y0, .int .u64 y1, .int .u64 y2] 95))).drewN n) os).cell? ⟨W.heap.size + 1, 0, none⟩ = some (.int .i64 y0) ∧ (grow ((((W.alloc (.cells #[.int .i64 x0, .int .u64 x1, .int .u64 x2] 95)).alloc (.cells #[.int .i64 y0, .int .u64 y1, .int .u64 y2] 95))).drewN n) os).cell? ⟨W.heap.size + 1, 1, none⟩ = some (.int .u64 y1) ∧ (grow ((((W.alloc (.cells #[.int .i64 x0, .int .u64 x1, .int .u64 x2] 95)).alloc (.cells #[.int .i64 y0, .int .u64 y1, .int .u64 y2] 95))).drewN n) os).cell? ⟨W.heap.size + 1, 2, none⟩ = some (.int .u64 y2) := fun n os => by
    refine ⟨?_, ?_, ?_⟩ <;> (rw [cell?_grow _ _ _ (by simp)]; simp)
  have HX : Hid _ := hx
  have HY : Hid _ := hy
  clear hx hy
  show Calls Try.prog 127 #[.agg #[.int .i64 x0, .int .u64 x1, .int .u64 x2], .agg #[.int .i64 y0, .int .u64 y1, .int .u64 y2]] W _
  go_enter Try.func127, Try.ntmps127
  go_wp2
  go_quiet_grown (first | (go_at_call 128; (with_reducible refine Calls.grown_of (HX.out _))) | (go_at_call 128; (with_reducible refine Calls.grown_of (HY.out _))))
  go_wp2
  go_ret
  exact ⟨rfl, nq, _, grow_two _ _ _ _ _⟩
end Go.Proofs.Ytapniojbnochiaa

/-
  Walks over a program that is a variable: swapRange and rotate of slices.SortStableFunc at the rows of topdown.
-/
namespace Go.Proofs.Ytapniojbnochiaa
open Go.Shelf Go.RowKit Go.Lib Go.Sort

/-- What the walks want of the program. -/
structure StL (P : Program) (k : Nat) : Prop where
  mixed : P.follows .mixedOrders = true
  g148 : P.funcs[176]? = some Try.f176
  g147 : P.funcs[174]? = some Try.f174
  g145 : P.funcs[170]? = some Try.f170
  t0 : P.underlying 0 = some (TypeDesc.tuple #[])
  a0 : ∀ (w : World), Sem.run P (isAgg 0) w = Result.ok false w
  z0 : ∀ (w : World), Sem.run P (Go.sizeOf 0) w = Result.ok 1 w
  v0 : ∀ (w : World), Sem.run P (zeroValue 0) w = Result.ok (Value.tuple #[]) w
  t3 : P.underlying 3 = some (TypeDesc.int IntKind.i64)
  a3 : ∀ (w : World), Sem.run P (isAgg 3) w = Result.ok false w
  z3 : ∀ (w : World), Sem.run P (Go.sizeOf 3) w = Result.ok 1 w
  v3 : ∀ (w : World), Sem.run P (zeroValue 3) w = Result.ok (Value.int IntKind.i64 0) w
  t4 : P.underlying 4 = some TypeDesc.bool
  a4 : ∀ (w : World), Sem.run P (isAgg 4) w = Result.ok false w
  z4 : ∀ (w : World), Sem.run P (Go.sizeOf 4) w = Result.ok 1 w
  v4 : ∀ (w : World), Sem.run P (zeroValue 4) w = Result.ok (Value.bool false) w
  tu : P.underlying 122 = some (TypeDesc.int IntKind.u64)
  au : ∀ (w : World), Sem.run P (isAgg 122) w = Result.ok false w
  zu : ∀ (w : World), Sem.run P (Go.sizeOf 122) w = Result.ok 1 w
  vu : ∀ (w : World), Sem.run P (zeroValue 122) w = Result.ok (Value.int IntKind.u64 0) w
  t22 : P.underlying 89 = some (TypeDesc.slice 95)
  a22 : ∀ (w : World), Sem.run P (isAgg 89) w = Result.ok false w
  z22 : ∀ (w : World), Sem.run P (Go.sizeOf 89) w = Result.ok 1 w
  v22 : ∀ (w : World), Sem.run P (zeroValue 89) w = Result.ok (Value.slice none 0 0) w
  t25 : P.underlying 148 = some (TypeDesc.func #[95, 95] #[3] false)
  a25 : ∀ (w : World), Sem.run P (isAgg 148) w = Result.ok false w
  z25 : ∀ (w : World), Sem.run P (Go.sizeOf 148) w = Result.ok 1 w
  v25 : ∀ (w : World), Sem.run P (zeroValue 148) w = Result.ok Value.nilFunc w
  aE : ∀ (w : World), Sem.run P (isAgg 95) w = Result.ok true w
  zE : ∀ (w : World), Sem.run P (Go.sizeOf 95) w = Result.ok k w
theorem stL : StL Try.prog 3 where
  mixed := by kernel_rfl
  g148 := Try.func176
  g147 := Try.func174
  g145 := Try.func170
  t0 := Try.underlying0
  a0 := Try.isAgg0
  z0 := Try.sizeOf0
  v0 := Try.zeroValue0
  t3 := Try.underlying3
  a3 := Try.isAgg3
  z3 := Try.sizeOf3
  v3 := Try.zeroValue3
  t4 := Try.underlying4
  a4 := Try.isAgg4
  z4 := Try.sizeOf4
  v4 := Try.zeroValue4
  tu := Try.underlying122
  au := Try.isAgg122
  zu := Try.sizeOf122
  vu := Try.zeroValue122
  t22 := Try.underlying89
  a22 := Try.isAgg89
  z22 := Try.sizeOf89
  v22 := Try.zeroValue89
  t25 := Try.underlying148
  a25 := Try.isAgg148
  z25 := Try.sizeOf148
  v25 := Try.zeroValue148
  aE := Try.isAgg95
  zE := Try.sizeOf95
section
variable {P : Program} {α : Type} [Inhabited α]
set_option maxHeartbeats 4000000 in
set_option maxRecDepth 1000000 in
theorem swapRange_o (k : Nat) (L : StL P k) (enc : α → List Value) (g : Nat) (cb : Array Value) (blk off cap a b n : Nat) (d0 d : Array α) (w0 w : World)
    (R : RowK enc k w0 blk off d0) (hs : d0.size = d.size) (S : SWK enc k w0 blk off d w) (hab : a + n ≤ b) (hb : b + n ≤ d.size) (hsz : d.size < 4611686018427387904) :
    Calls P 176 #[.slice (some ⟨blk, off, none⟩) d.size cap, .int .i64 a, .int .i64 b, .int .i64 n, .func (.func g) #[] cb] w fun e w' => e = .returned (.tuple #[]) ∧ ∃ dn, Swd a b n d dn ∧ SWK enc k w0 blk off dn w' := by
  have mixed := L.mixed; have t0 := L.t0; have a0 := L.a0; have z0 := L.z0; have v0 := L.v0; have t3 := L.t3; have a3 := L.a3; have z3 := L.z3; have v3 := L.v3; have t4 := L.t4; have a4 := L.a4; have z4 := L.z4; have v4 := L.v4; have t22 := L.t22; have a22 := L.a22; have z22 := L.z22; have v22 := L.v22; have t25 := L.t25; have a25 := L.a25; have z25 := L.z25; have v25 := L.v25; have aE := L.aE; have zE := L.zE
  have FG := L.g148
  have S0 : Aside (SWK enc k w0 blk off d w) := S
  clear S L
  go_enter FG, Try.ntmps176
  go_wp2
  go_loopg [10] n (fun kx s10 wr => ∃ (q : Nat) (dk : Array α), s10 = .int .i64 q ∧ q ≤ n ∧ n - q ≤ kx ∧ dk.size = d.size ∧ Aside (SWK enc k w0 blk off dk wr) ∧ Hid (Swd a b q d dk))
  case atStart => exact ⟨0, d, rfl, Nat.zero_le _, by omega, rfl, S0, Lib.hid (Swd.start a b d)⟩
  case round =>
    clear S0
    obtain ⟨q, dk, rfl, hq, hkx, hds, S1, HW⟩ := hrel
    by_cases hlt : q < n
    · have hltz : (q : Int) < (n : Int) := by omega
      go_wp2_with fail
      have wa : IntKind.i64.wrap ((a : Int) + (q : Int)) = ((a + q : Nat) : Int) := by rw [IntKind.wrap_i64]; omega
      have wa' : (a : Int) + (q : Int) = ((a + q : Nat) : Int) := by omega
      have wb : IntKind.i64.wrap ((b : Int) + (q : Int)) = ((b + q : Nat) : Int) := by rw [IntKind.wrap_i64]; omega
      have wb' : (b : Int) + (q : Int) = ((b + q : Nat) : Int) := by omega
      obtain ⟨x, hx⟩ : ∃ x, x = a + q := ⟨_, rfl⟩
      obtain ⟨y, hy⟩ : ∃ y, y = b + q := ⟨_, rfl⟩
      have HXY : Hid (x = a + q ∧ y = b + q) := ⟨hx, hy⟩
      rw [← hx] at wa wa'
      rw [← hy] at wb wb'
      have hxs : x < d.size := by omega
      have hys : y < d.size := by omega
      clear hx hy
      have ea44 : ((x : Int)).toNat = x := by omega
      have pa44 : (0 : Int) ≤ (x : Int) := by omega
      have ba44 : (x : Int) < (d.size : Int) := by omega
      have ec44 : ((y : Int)).toNat = y := by omega
      have pc44 : (0 : Int) ≤ (y : Int) := by omega
      have bc44 : (y : Int) < (d.size : Int) := by omega
      have S2 : Aside (SWK enc k w0 blk off (swp dk x y) ((wr.drew.setCells blk (off + x * k) (enc dk[y]!)).setCells blk (off + y * k) (enc dk[x]!))) := S1.out.swapped R x y (by omega) (by omega)
      have l44a := S1.out.ld1 R (by omega) P x (by omega)
      have l44b := S1.out.ld1 R (by omega) P y (by omega)
      have s44a := S1.out.st1 R (by omega) P x (by omega) dk[y]!
      have s44b := S1.out.st2 R (by omega) P x y (by omega) (by omega) dk[y]! dk[x]!
      have n44a : (enc dk[x]!).length = k := R.hk _
      have n44b : (enc dk[y]!).length = k := R.hk _
      generalize enc dk[x]! = cI44 at S2 l44a s44b n44a
      generalize enc dk[y]! = cJ44 at S2 l44b s44a s44b n44b
      clear S1
      go_big_region_o
      clear l44a l44b s44a s44b
      generalize (wr.drew.setCells blk (off + x * k) cJ44).setCells blk (off + y * k) cI44 = w2 at S2 ⊢
      go_wp2
      go_roundg (n - (q + 1))
      case measure => omega
      case rel => exact ⟨q + 1, swp dk x y, by go_num, by omega, Nat.le_refl _, by rw [Go.Sort.size_swp]; exact hds, S2, by rw [HXY.out.1, HXY.out.2]; exact Lib.hid (HW.out.step (by omega) (by omega))⟩
    · have hltz : ¬ (q : Int) < (n : Int) := by omega
      have hke : q = n := by omega
      subst hke
      go_wp2
      go_end0
      exact ⟨rfl, dk, HW.out, S1.out⟩
set_option maxHeartbeats 4000000 in
set_option maxRecDepth 1000000 in
theorem rotate_o (k : Nat) (L : StL P k) (enc : α → List Value) (g : Nat) (cb : Array Value) (blk off cap a m b : Nat) (d0 d : Array α) (w0 w : World)
    (R : RowK enc k w0 blk off d0) (hs : d0.size = d.size) (S : SWK enc k w0 blk off d w) (ham : a < m) (hmb : m < b) (hb : b ≤ d.size) (hsz : d.size < 4611686018427387904) :
    Calls P 174 #[.slice (some ⟨blk, off, none⟩) d.size cap, .int .i64 a, .int .i64 m, .int .i64 b, .func (.func g) #[] cb] w fun e w' => e = .returned (.tuple #[]) ∧ ∃ dn, Rot a m b d dn ∧ SWK enc k w0 blk off dn w' := by
  have t0 := L.t0; have a0 := L.a0; have z0 := L.z0; have v0 := L.v0; have t3 := L.t3; have a3 := L.a3; have z3 := L.z3; have v3 := L.v3; have t4 := L.t4; have a4 := L.a4; have z4 := L.z4; have v4 := L.v4; have t22 := L.t22; have a22 := L.a22; have z22 := L.z22; have v22 := L.v22; have t25 := L.t25; have a25 := L.a25; have z25 := L.z25; have v25 := L.v25
  have FG := L.g147
  have e148 : ∀ args w, (callFunc 176 args).run P w = .ok (.enter 176 args) w := enters_of L.g148 (by kernel_rfl) rfl
  have HSW : Hid (∀ (a b n : Nat) (dk : Array α) (wr : World), d0.size = dk.size → SWK enc k w0 blk off dk wr → a + n ≤ b → b + n ≤ dk.size → dk.size < 4611686018427387904 →
    Calls P 176 #[.slice (some ⟨blk, off, none⟩) dk.size cap, .int .i64 a, .int .i64 b, .int .i64 n, .func (.func g) #[] cb] wr fun e w' => e = .returned (.tuple #[]) ∧ ∃ dn, Swd a b n dk dn ∧ SWK enc k w0 blk off dn w') :=
    Lib.hid fun a b n dk wr h1 h2 h3 h4 h5 => swapRange_o k L enc g cb blk off cap a b n d0 dk w0 wr R h1 h2 h3 h4 h5
  have S0 : Aside (SWK enc k w0 blk off d w) := S
  clear S L
  have wi : IntKind.i64.wrap ((m : Int) - (a : Int)) = ((m - a : Nat) : Int) := by rw [IntKind.wrap_i64]; omega
  have wi' : (m : Int) - (a : Int) = ((m - a : Nat) : Int) := by omega
  have wj : IntKind.i64.wrap ((b : Int) - (m : Int)) = ((b - m : Nat) : Int) := by rw [IntKind.wrap_i64]; omega
  have wj' : (b : Int) - (m : Int) = ((b - m : Nat) : Int) := by omega
  go_enter FG, Try.ntmps174
  go_wp2
  clear wi wi' wj wj'
  go_loopg [10, 11] (b - a) (fun kx s10 s11 wr => ∃ (i j : Nat) (dk : Array α), s10 = .int .i64 i ∧ s11 = .int .i64 j ∧ 0 < i ∧ 0 < j ∧ i + j ≤ kx ∧ dk.size = d.size ∧ Aside (SWK enc k w0 blk off dk wr) ∧ Hid (RotTo a m b d i j dk))
  case atStart => exact ⟨m - a, b - m, d, rfl, rfl, by omega, by omega, by omega, rfl, S0, Lib.hid (RotTo.start d (by omega) (by omega))⟩
  case round =>
    clear S0
    obtain ⟨i, j, dk, rfl, rfl, hi, hj, hkx, hds, S1, HW⟩ := hrel
    have hb3 := HW.out.2.2.1
    have hb4 := HW.out.2.2.2.1
    have hb5 := HW.out.2.2.2.2
    rcases Nat.lt_trichotomy i j with hlt | heq | hgt
    · have q1 : ((i : Int) == (j : Int)) = false := by simp; omega
      have q2 : ¬ (j : Int) < (i : Int) := by omega
      have q3 : ((i : Int) != (j : Int)) = true := by simp; omega
      obtain ⟨p1, hp1⟩ : ∃ x, x = m - i := ⟨_, rfl⟩
      obtain ⟨p2, hp2⟩ : ∃ x, x = m + j := ⟨_, rfl⟩
      obtain ⟨p3, hp3⟩ : ∃ x, x = m + j - i := ⟨_, rfl⟩
      obtain ⟨p4, hp4⟩ : ∃ x, x = j - i := ⟨_, rfl⟩
      have u1 : IntKind.i64.wrap ((m : Int) - (i : Int)) = (p1 : Int) := by rw [IntKind.wrap_i64]; omega
      have u1' : (m : Int) - (i : Int) = (p1 : Int) := by omega
      have u2' : (m : Int) + (j : Int) = (p2 : Int) := by omega
      have u3' : (p2 : Int) - (i : Int) = (p3 : Int) := by omega
      have u4 : IntKind.i64.wrap ((j : Int) - (i : Int)) = (p4 : Int) := by rw [IntKind.wrap_i64]; omega
      have u4' : (j : Int) - (i : Int) = (p4 : Int) := by omega
      have hc := HSW.out (m - i) (m + j - i) i dk wr (by omega) S1.out (by omega) (by omega) (by omega)
      have HN := Lib.hid (fun dn h => HW.out.left hb hlt (dn := dn) h)
      rw [hds, ← hp1, ← hp3] at hc
      rw [← hp1, ← hp3, ← hp4] at HN
      have HC := Lib.hid hc
      have hp4' : 0 < p4 := by omega
      have hpm : p4 < j := by omega
      have b2 : (p2 : Int) < 4611686018427387904 := by omega
      have b3 : (p3 : Int) < 4611686018427387904 := by omega
      clear hb3 hb4 hb5 hc hp1 hp2 hp3 hp4 S1 hds HW
      go_wp2_with (go_at_fn 176; refine HC.out.mono ?_; rintro e w2 ⟨rfl, dn, hsw, hsk⟩)
      have HR := Lib.hid (HN.out dn hsw)
      have hdn := HR.out.1.1
      have S2 : Aside (SWK enc k w0 blk off dn w2) := hsk
      clear hsw hsk HC HN u1 u1' u2' u3'
      go_wp2
      clear u4 u4'
      go_roundg (i + p4)
      case measure => omega
      case rel => exact ⟨i, p4, dn, rfl, rfl, hi, hp4', Nat.le_refl _, hdn, S2, HR⟩
    · subst heq
      have q1 : ((i : Int) == (i : Int)) = true := by simp
      have q3 : ((i : Int) != (i : Int)) = false := by simp
      obtain ⟨p1, hp1⟩ : ∃ x, x = m - i := ⟨_, rfl⟩
      have u1 : IntKind.i64.wrap ((m : Int) - (i : Int)) = (p1 : Int) := by rw [IntKind.wrap_i64]; omega
      have u1' : (m : Int) - (i : Int) = (p1 : Int) := by omega
      have hc := HSW.out (m - i) m i dk wr (by omega) S1.out (by omega) (by omega) (by omega)
      have HN := Lib.hid (fun dn h => HW.out.done hb (dn := dn) h)
      rw [hds, ← hp1] at hc
      rw [← hp1] at HN
      have HC := Lib.hid hc
      clear hb3 hb4 hb5 hc hp1 S1 hds HW
      go_wp2_with (go_at_fn 176; refine HC.out.mono ?_; rintro e w2 ⟨rfl, dn, hsw, hsk⟩)
      go_end0
      exact ⟨rfl, dn, HN.out dn hsw, hsk⟩
    · have q1 : ((i : Int) == (j : Int)) = false := by simp; omega
      have q2 : (j : Int) < (i : Int) := by omega
      have q3 : ((i : Int) != (j : Int)) = true := by simp; omega
      obtain ⟨p1, hp1⟩ : ∃ x, x = m - i := ⟨_, rfl⟩
      obtain ⟨p4, hp4⟩ : ∃ x, x = i - j := ⟨_, rfl⟩
      have u1 : IntKind.i64.wrap ((m : Int) - (i : Int)) = (p1 : Int) := by rw [IntKind.wrap_i64]; omega
      have u1' : (m : Int) - (i : Int) = (p1 : Int) := by omega
      have u4 : IntKind.i64.wrap ((i : Int) - (j : Int)) = (p4 : Int) := by rw [IntKind.wrap_i64]; omega
      have u4' : (i : Int) - (j : Int) = (p4 : Int) := by omega
      have hc := HSW.out (m - i) m j dk wr (by omega) S1.out (by omega) (by omega) (by omega)
      have HN := Lib.hid (fun dn h => HW.out.right hb hgt (dn := dn) h)
      rw [hds, ← hp1] at hc
      rw [← hp1, ← hp4] at HN
      have HC := Lib.hid hc
      have hp4' : 0 < p4 := by omega
      have hpm : p4 < i := by omega
      clear hb3 hb4 hb5 hc hp1 hp4 S1 hds HW
      go_wp2_with (go_at_fn 176; refine HC.out.mono ?_; rintro e w2 ⟨rfl, dn, hsw, hsk⟩)
      have HR := Lib.hid (HN.out dn hsw)
      have hdn := HR.out.1.1
      have S2 : Aside (SWK enc k w0 blk off dn w2) := hsk
      clear hsw hsk HC HN u1 u1' u4 u4'
      go_wp2
      go_roundg (p4 + j)
      case measure => omega
      case rel => exact ⟨p4, j, dn, rfl, rfl, hp4', hj, Nat.le_refl _, hdn, S2, HR⟩
end
end Go.Proofs.Ytapniojbnochiaa

/-
  Walks over a program that is a variable: symMerge of slices.SortStableFunc at the rows of topdown.
-/
namespace Go.Proofs.Ytapniojbnochiaa
open Go.Shelf Go.RowKit Go.Lib Go.Sort
section
variable {P : Program} {α : Type} [Inhabited α]
set_option maxHeartbeats 8000000 in
set_option maxRecDepth 1000000 in
theorem symLeft_o (k : Nat) (L : StL P k) (enc : α → List Value) (cf : α → α → Int) (hO : SWO (ltOf cf)) (g : Nat) (cb : Array Value) (eg : ∀ args w, (callFunc g args).run P w = .ok (.enter g args) w) (blk off cap a m b : Nat) (d0 d : Array α) (w0 w : World)
    (hcmp : CmpLays P g cb enc k cf blk off d0.size w0) (R : RowK enc k w0 blk off d0) (hs : d0.size = d.size) (S : SWK enc k w0 blk off d w) (ham : a + 1 = m) (hmb : m < b) (hb : b ≤ d.size) (hsz : d.size < 1152921504606846976) (hr : SortedIn (ltOf cf) m b d) :
    Calls P 170 #[.slice (some ⟨blk, off, none⟩) d.size cap, .int .i64 a, .int .i64 m, .int .i64 b, .func (.func g) #[] cb] w fun e w' => e = .returned (.tuple #[]) ∧ ∃ dn, Mrg (ltOf cf) a b d dn ∧ SWK enc k w0 blk off dn w' := by
  have mixed := L.mixed; have t0 := L.t0; have a0 := L.a0; have z0 := L.z0; have v0 := L.v0; have t3 := L.t3; have a3 := L.a3; have z3 := L.z3; have v3 := L.v3; have t4 := L.t4; have a4 := L.a4; have z4 := L.z4; have v4 := L.v4; have tu := L.tu; have au := L.au; have zu := L.zu; have vu := L.vu; have t22 := L.t22; have a22 := L.a22; have z22 := L.z22; have v22 := L.v22; have t25 := L.t25; have a25 := L.a25; have z25 := L.z25; have v25 := L.v25; have aE := L.aE; have zE := L.zE
  have FG := L.g145
  have HC : Aside _ := hcmp
  have S0 : Aside (SWK enc k w0 blk off d w) := S
  have HR : Hid (SortedIn (ltOf cf) m b d) := hr
  have HO : Hid (SWO (ltOf cf)) := Lib.hid hO
  have q1 : (m : Int) - (a : Int) = 1 := by omega
  clear S L hcmp hr hO
  go_enter FG, Try.ntmps170
  go_wp2
  clear q1
  go_loopg [10, 11] (b - m) (fun kx s10 s11 wr => ∃ (i j : Nat), s10 = .int .i64 i ∧ s11 = .int .i64 j ∧ m ≤ i ∧ i ≤ j ∧ j ≤ b ∧ j - i ≤ kx ∧ Aside (SWK enc k w0 blk off d wr) ∧ Hid ((∀ x, m ≤ x → x < i → ltOf cf d[x]! d[a]! = true) ∧ (∀ x, j ≤ x → x < b → ltOf cf d[x]! d[a]! = false)))
  case atStart => exact ⟨m, b, rfl, rfl, by omega, by omega, by omega, by omega, S0, Lib.hid ⟨fun x _ _ => by omega, fun x _ _ => by omega⟩⟩
  case round =>
    clear S0
    obtain ⟨i, j, rfl, rfl, hmi, hij, hjb, hkx, S1, HX⟩ := hrel
    by_cases hlt : i < j
    · have hltz : (i : Int) < (j : Int) := by omega
      obtain ⟨h, hh⟩ : ∃ h, h = (i + j) / 2 := ⟨_, rfl⟩
      have hb1 : (i : Int) + (j : Int) < 4611686018427387904 := by omega
      have hb0 : 0 ≤ (i : Int) + (j : Int) := by omega
      have hhe : ((i : Int) + (j : Int)) / 2 = (h : Int) := by omega
      have hih : i ≤ h := by omega
      have hhj : h < j := by omega
      clear hh
      have hxs : h < d.size := by omega
      have hys : a < d.size := by omega
      cases hlv : ltOf cf d[h]! d[a]! with
      | true =>
        have HN : Hid (∀ x, m ≤ x → x < h + 1 → ltOf cf d[x]! d[a]! = true) := Lib.hid fun x h1 h2 => by
          by_cases e : x = h
          · subst e; exact hlv
          · have h3 : ltOf cf d[h]! d[x]! = false := HR.out x h h1 (by omega) (by omega)
            cases h4 : ltOf cf d[x]! d[a]! with
            | true => rfl
            | false => exact absurd (HO.out.ntrans _ _ _ h3 h4) (by rw [hlv]; simp)
        have ea : ((h : Nat) : Int).toNat = h := by omega
        have pa : (0 : Int) ≤ (h : Int) := by omega
        have ba : (h : Int) < (d.size : Int) := by omega
        have ec : ((a : Nat) : Int).toNat = a := by omega
        have pc : (0 : Int) ≤ (a : Int) := by omega
        have bc : (a : Int) < (d.size : Int) := by omega
        obtain ⟨vx, hvx⟩ : ∃ z, z = d[h]! := ⟨_, rfl⟩
        obtain ⟨vy, hvy⟩ : ∃ z, z = d[a]! := ⟨_, rfl⟩
        have la := S1.out.ld R (by omega) P h (by omega)
        have lb := S1.out.ld R (by omega) P a (by omega)
        rw [← hvx] at la
        rw [← hvy] at lb
        have hcm := S1.out.cmp HC.out (by omega) vx vy
        have hv : cf vx vy < 0 := by rw [hvx, hvy]; exact of_decide_eq_true hlv
        have hd : decide (cf vx vy < 0) = true := decide_eq_true hv
        clear hvx hvy
        go_wp2_with fail
        go_quiet_grown (first | (go_at_fn g; refine Calls.grown_of (hcm _ _)))
        have S2 : Aside (SWK enc k w0 blk off d (grow (wr.drewN nq) osq)) := S1.out.grown nq osq
        clear la lb hcm S1
        generalize grow (wr.drewN nq) osq = w2 at S2 ⊢
        clear nq osq
        go_wp2
        go_roundg (j - (h + 1))
        case measure => omega
        case rel => exact ⟨h + 1, j, by go_num, rfl, by omega, by omega, hjb, Nat.le_refl _, S2, Lib.hid ⟨HN.out, HX.out.2⟩⟩
      | false =>
        have HN : Hid (∀ x, h ≤ x → x < b → ltOf cf d[x]! d[a]! = false) := Lib.hid fun x h1 h2 => by
          by_cases e : x = h
          · subst e; exact hlv
          · have h3 : ltOf cf d[x]! d[h]! = false := HR.out h x (by omega) (by omega) h2
            exact HO.out.ntrans _ _ _ h3 hlv
        have ea : ((h : Nat) : Int).toNat = h := by omega
        have pa : (0 : Int) ≤ (h : Int) := by omega
        have ba : (h : Int) < (d.size : Int) := by omega
        have ec : ((a : Nat) : Int).toNat = a := by omega
        have pc : (0 : Int) ≤ (a : Int) := by omega
        have bc : (a : Int) < (d.size : Int) := by omega
        obtain ⟨vx, hvx⟩ : ∃ z, z = d[h]! := ⟨_, rfl⟩
        obtain ⟨vy, hvy⟩ : ∃ z, z = d[a]! := ⟨_, rfl⟩
        have la := S1.out.ld R (by omega) P h (by omega)
        have lb := S1.out.ld R (by omega) P a (by omega)
        rw [← hvx] at la
        rw [← hvy] at lb
        have hcm := S1.out.cmp HC.out (by omega) vx vy
        have hv : ¬ cf vx vy < 0 := by rw [hvx, hvy]; exact of_decide_eq_false hlv
        have hd : decide (cf vx vy < 0) = false := decide_eq_false hv
        clear hvx hvy
        go_wp2_with fail
        go_quiet_grown (first | (go_at_fn g; refine Calls.grown_of (hcm _ _)))
        have S2 : Aside (SWK enc k w0 blk off d (grow (wr.drewN nq) osq)) := S1.out.grown nq osq
        clear la lb hcm S1
        generalize grow (wr.drewN nq) osq = w2 at S2 ⊢
        clear nq osq
        go_wp2
        go_roundg (h - i)
        case measure => omega
        case rel => exact ⟨i, h, rfl, rfl, hmi, by omega, by omega, Nat.le_refl _, S2, Lib.hid ⟨HX.out.1, HN.out⟩⟩
    · have hltz : ¬ (i : Int) < (j : Int) := by omega
      have hje : j = i := by omega
      subst hje
      go_wp2
      go_loopg [13] (j - a) (fun kx s13 wr => ∃ (q : Nat) (dk : Array α), s13 = .int .i64 q ∧ a ≤ q ∧ q < j ∧ j - q ≤ kx ∧ dk.size = d.size ∧ Aside (SWK enc k w0 blk off dk wr) ∧ Hid (Rot a (a + 1) (q + 1) d dk))
      case atStart => exact ⟨a, d, rfl, by omega, by omega, by omega, rfl, S1, Lib.hid (Rot.one a d)⟩
      case round =>
        clear S1
        obtain ⟨q, dk, rfl, haq, hqj, hkq, hds, S1, HW⟩ := hrel
        have hj1 : 1 ≤ (j : Int) := by omega
        by_cases hqs : q + 1 < j
        · have hqz : (q : Int) < (j : Int) - 1 := by omega
          have hqz' : (q : Int) + 1 < (j : Int) := by omega
          go_wp2_with fail
          obtain ⟨y, hy⟩ : ∃ y, y = q + 1 := ⟨_, rfl⟩
          have HY := Lib.hid hy
          have wy : (q : Int) + 1 = (y : Int) := by omega
          have hxs : q < d.size := by omega
          have hys : y < d.size := by omega
          have ea : ((q : Int)).toNat = q := by omega
          have pa : (0 : Int) ≤ (q : Int) := by omega
          have ba : (q : Int) < (d.size : Int) := by omega
          have ec : ((y : Int)).toNat = y := by omega
          have pc : (0 : Int) ≤ (y : Int) := by omega
          have bc : (y : Int) < (d.size : Int) := by omega
          have wy2 : IntKind.i64.wrap ((q : Int) + 1) = (y : Int) := by rw [IntKind.wrap_i64]; omega
          have S2 : Aside (SWK enc k w0 blk off (swp dk q y) ((wr.drew.setCells blk (off + q * k) (enc dk[y]!)).setCells blk (off + y * k) (enc dk[q]!))) := S1.out.swapped R q y (by omega) (by omega)
          have l44a := S1.out.ld1 R (by omega) P q (by omega)
          have l44b := S1.out.ld1 R (by omega) P y (by omega)
          have s44a := S1.out.st1 R (by omega) P q (by omega) dk[y]!
          have s44b := S1.out.st2 R (by omega) P q y (by omega) (by omega) dk[y]! dk[q]!
          have n44a : (enc dk[q]!).length = k := R.hk _
          have n44b : (enc dk[y]!).length = k := R.hk _
          generalize enc dk[q]! = cI44 at S2 l44a s44b n44a
          generalize enc dk[y]! = cJ44 at S2 l44b s44a s44b n44b
          clear S1 hy
          go_big_region_o
          clear l44a l44b s44a s44b
          generalize (wr.drew.setCells blk (off + q * k) cJ44).setCells blk (off + y * k) cI44 = w2 at S2 ⊢
          clear wy wy2
          go_wp2
          go_roundg (j - (q + 1))
          case measure => omega
          case rel => exact ⟨q + 1, swp dk q y, by go_num, by omega, by omega, Nat.le_refl _, by rw [Go.Sort.size_swp]; exact hds, S2, by rw [HY.out]; exact Lib.hid (HW.out.up haq (by omega))⟩
        · have hqz : ¬ (q : Int) < (j : Int) - 1 := by omega
          have hqz' : ¬ (q : Int) + 1 < (j : Int) := by omega
          have hqe : q + 1 = j := by omega
          have hm : Mrg (ltOf cf) a b d dk := mrg_left HO.out (i := q + 1) HW.out (by omega) (by omega) hb (by rw [ham]; exact HR.out) (fun x h1 h2 => HX.out.1 x (by omega) (by omega)) (fun x h1 h2 => HX.out.2 x (by omega) h2)
          have HM := Lib.hid hm
          clear hm
          go_wp2
          (try simp only [Exit.inBlock, Exit.then]); refine bodyPost_ret (results_none rfl _ _ _) rfl ?_
          exact ⟨rfl, dk, HM.out, S1.out⟩
end
end Go.Proofs.Ytapniojbnochiaa
