/-
  Plain: what lies below Top; valid formulas.
-/
import Derived.Test.YtcgfjacidjebaaaP3
namespace Go.Proofs.Ytcgfjacidjebaaa

def noNd : Nd := ⟨0, 0, []⟩
def markAll (m : List Bool) (args : List Int) : List Bool := args.foldl (fun m a => m.set a.toNat true) m
def belowGo (V : Nat) (nodes : List Nd) : Nat → List Bool → List Bool
  | 0, m => m
  | k + 1, m => belowGo V nodes k (if m.getD (V + k) false then markAll m (nodes.getD k noNd).args else m)
/-- The arguments below Top. -/
def belowK (V T : Nat) (nodes : List Nd) : List Bool := belowGo V nodes nodes.length ((List.replicate (V + nodes.length) false).set T true)
theorem len_markAll (args : List Int) : ∀ m, (markAll m args).length = m.length := by
  induction args with
  | nil => intro m; rfl
  | cons a l ih => intro m; show (markAll (m.set a.toNat true) l).length = _; rw [ih]; simp
theorem len_belowGo (V : Nat) (nodes : List Nd) : ∀ k m, (belowGo V nodes k m).length = m.length := by
  intro k
  induction k with
  | zero => intro m; rfl
  | succ k ih =>
    intro m
    unfold belowGo
    rw [ih]
    split
    · exact len_markAll _ _
    · rfl
theorem len_belowK (V T : Nat) (nodes : List Nd) : (belowK V T nodes).length = V + nodes.length := by
  unfold belowK; rw [len_belowGo]; simp

/-- A valid formula with V events. -/
structure Ok (f : Fm) (V T : Nat) : Prop where
  vars : f.vars = V
  top : f.top = T
  v24 : V ≤ 24
  n128 : f.nodes.length ≤ 128
  tlt : T < V + f.nodes.length
  kind : ∀ i (h : i < f.nodes.length), 0 ≤ f.nodes[i].kind ∧ f.nodes[i].kind ≤ 5
  args : ∀ i (h : i < f.nodes.length), ∀ a ∈ f.nodes[i].args, 0 ≤ a ∧ a < (V : Int) + i
  argc : ∀ i (h : i < f.nodes.length), argsOk f.nodes[i].kind f.nodes[i].args.length = true
  arity : ∀ i (h : i < f.nodes.length), chkK f.nodes[i].kind f.nodes[i].k f.nodes[i].args.length = 0
theorem argsOk_le {kind : Int} {n : Nat} (h : argsOk kind n = true) : n ≤ 16 := by
  unfold argsOk at h
  split at h
  · simp at h; omega
  · split at h
    · simp at h; omega
    · simp at h; omega
theorem chkNd_zero {b : Int} {x : Nd} (h : chkNd b x = 0) : (0 ≤ x.kind ∧ x.kind ≤ 5) ∧ argsOk x.kind x.args.length = true ∧ (∀ a ∈ x.args, 0 ≤ a ∧ a < b) ∧ chkK x.kind x.k x.args.length = 0 := by
  unfold chkNd at h
  split at h
  · cases h
  · split at h
    · cases h
    · split at h
      · cases h
      · rename_i h1 h2 h3
        refine ⟨by omega, by simpa using h2, ?_, h⟩
        rw [Bool.not_eq_false, List.all_eq_true] at h3
        intro a ha
        simpa using h3 a ha
theorem chkFrom_zero (b : Int) (xs : List Nd) (h : chkFrom b xs = 0) : ∀ i (hi : i < xs.length), chkNd (b + i) xs[i] = 0 := by
  induction xs generalizing b with
  | nil => intro i hi; simp at hi
  | cons x xs ih =>
    unfold chkFrom at h
    split at h
    · rename_i h0
      intro i hi
      cases i with
      | zero => simpa using h0
      | succ i =>
        have := ih (b + 1) h i (by simpa using hi)
        simpa [Int.add_assoc, Int.add_comm 1] using this
    · rename_i h0; exact absurd h h0
theorem ok_of (f : Fm) (h : chkF f = 0) : ∃ V T, Ok f V T := by
  unfold chkF at h
  split at h
  · cases h
  · split at h
    · cases h
    · split at h
      · rename_i h1 h2 h3
        split at h
        · rename_i h4
          simp only [okArg, decide_eq_true_eq] at h4
          obtain ⟨V, hV⟩ := Int.eq_ofNat_of_zero_le h4.1
          obtain ⟨T, hT⟩ := Int.eq_ofNat_of_zero_le h4.2.1
          have hz := chkFrom_zero _ _ h3
          refine ⟨V, T, hV, hT, by omega, by omega, by omega, ?_, ?_, ?_, ?_⟩
          · exact fun i hi => (chkNd_zero (hz i hi)).1
          · intro i hi a ha
            have := (chkNd_zero (hz i hi)).2.2.1 a ha
            omega
          · exact fun i hi => (chkNd_zero (hz i hi)).2.1
          · exact fun i hi => (chkNd_zero (hz i hi)).2.2.2
        · cases h
      · rename_i h3; exact absurd h h3
end Go.Proofs.Ytcgfjacidjebaaa
