/-
  A map[int]bool of the call's own, by what it answers; family.Product.
-/
import Derived.Test.YtcgfjacidjebaaaB8
import Derived.Maps.OwnOps
import Derived.Maps.OwnSet
import Derived.Maps.Views
namespace Go.Proofs.Ytcgfjacidjebaaa
open Go.RowKit Go.Maps

/-- Block b is a map from ints to bools with at most n entries that answers mem. -/
def BoolMap (w : World) (b n : Nat) (mem : Int → Bool) : Prop :=
  ∃ D : DataW Unit, w.ownsMap Try.prog 3 (plainElem Try.prog 4) b n D ∧ IsMap D ∧ ∀ x : Int, D.atKey (.int .i64 x) (.lit (.bool false)) = .lit (.bool (mem x))
theorem BoolMap.made (w : World) : BoolMap (w.alloc (.map #[] 0)) w.heap.size 0 (fun _ => false) :=
  ⟨_, World.ownsMap_made _ _ _ _, ⟨_, rfl⟩, fun _ => rfl⟩
theorem BoolMap.kept {w w' : World} {b n : Nat} {mem : Int → Bool} (h : BoolMap w b n mem) (hb : w'.heap[b]? = w.heap[b]?) : BoolMap w' b n mem := by
  obtain ⟨D, ⟨es, cl, h1, h2⟩, h3⟩ := h
  exact ⟨D, ⟨es, cl, hb.trans h1, h2⟩, h3⟩
theorem BoolMap.lt {w : World} {b n : Nat} {mem : Int → Bool} (h : BoolMap w b n mem) : b < w.heap.size := by
  obtain ⟨D, h1, _⟩ := h
  exact h1.lt
theorem wf_mk {n : Nat} (h : Mk n) : (Lit.int .i64 (n : Int)).wf = true := by
  unfold Mk at h
  simp [Lit.wf, IntKind.min, IntKind.max, IntKind.signed, IntKind.bits]; omega

theorem bool_inv {P : Program} {e : TypeId} (he : P.underlying e = some .bool) {v : Value} {x : Bool} {ps : List MemPlace} (h : plainElem (H := Unit) P e v = some (.lit (.bool x), ps)) : v = .bool x := by
  cases v <;> simp [plainElem, he] at h
  rw [h.1]
variable {ops : Array Oper} {rest : List Oper} {o : Oper} {a : Act} {Q : Exit → Act → World → Prop} {w : World}
theorem look_bool (t : TypeId) (ht : Try.prog.underlying t = some (.map 3 4)) (hg : o.guard = none) (m x : Operand) (hop : o.op = Op.lookup t m x false) (b n : Nat) (mem : Int → Bool)
    (hm : a.eval m = .map (some b)) (hown : BoolMap w b n mem) (k : Int) (hx : a.eval x = .int .i64 k) (hk : (Lit.int .i64 k).wf = true)
    (hK : wpList Try.prog ops Q rest (a.put o.dst (.bool (mem k))) w) : wpList Try.prog ops Q (o :: rest) a w := by
  obtain ⟨D, h1, h2, h3⟩ := hown
  refine wpList_plain hg fun K' hK' => ?_
  have hz : (zeroValue 4).run Try.prog w = .ok (.bool false) w := by kernel_rfl
  obtain ⟨v, ps, hrun, hv⟩ := h1.lookup (int_keyed Try.underlying3) ht hz (plainElem_bool (H := Unit) Try.underlying4 false) (keyOf_int_mk Try.underlying3 hk)
  rw [h3 k] at hv
  have hvb : v = .bool (mem k) := by
    exact bool_inv Try.underlying4 hv
  subst hvb
  unfold Oper.wp
  simp [execOp, hop, hm, hx, hrun, Result.andThen]
  exact hK' _ _ hK
theorem store_bool (t : TypeId) (ht : Try.prog.underlying t = some (.map 3 4)) (hg : o.guard = none) (m x v : Operand) (hop : o.op = Op.mapUpdate t m x v) (b n : Nat) (mem : Int → Bool)
    (hm : a.eval m = .map (some b)) (hown : BoolMap w b n mem) (hn : n < maxLen) (k : Int) (hx : a.eval x = .int .i64 k) (hk : (Lit.int .i64 k).wf = true) (c : Bool) (hv : a.eval v = .bool c)
    (hK : ∀ w', BoolMap w' b (n + 1) (fun y => if y = k then c else mem y) → w.grownBy w' (some b) → wpList Try.prog ops Q rest (a.put o.dst undef) w') : wpList Try.prog ops Q (o :: rest) a w := by
  obtain ⟨D, h1, h2, h3⟩ := hown
  refine wpList_mapUpdate_own w hg m x v t hop 3 4 (int_keyed Try.underlying3) ht _ b n D hm h1 hn _ _ _ hx hv (keyOf_int_mk Try.underlying3 hk) (.lit (.bool c)) [] (plainElem_bool Try.underlying4 c) ?_
  intro w' h4 h5
  refine hK w' ⟨_, h4, ?_, fun y => ?_⟩ h5
  · obtain ⟨es, rfl⟩ := h2; exact ⟨_, rfl⟩
  · by_cases e : y = k
    · subst e
      rw [atKey_put_same (k := .int .i64 y) h2 (by simp [WideAt.IsKeyLit])]
      simp
    · rw [atKey_put_other (by intro h; simp at h; exact e h), h3 y]; simp [e]

/-- All unions, each once, in the order of their first appearance. -/
def addU (out : List Nat) (u : Nat) : List Nat := if u ∈ out then out else out ++ [u]
def rowU (x : Nat) (ys : List Nat) (out : List Nat) : List Nat := ys.foldl (fun out y => addU out (x ||| y)) out
def allU (xs ys : List Nat) : List Nat := xs.foldl (fun out x => rowU x ys out) []
theorem mem_addU (out : List Nat) (u z : Nat) : z ∈ addU out u ↔ z ∈ out ∨ z = u := by
  unfold addU
  split
  · constructor
    · exact .inl
    · rintro (h | rfl)
      · exact h
      · assumption
  · simp
theorem mem_rowU (x : Nat) (ys : List Nat) : ∀ out z, z ∈ rowU x ys out ↔ z ∈ out ∨ ∃ y ∈ ys, z = x ||| y := by
  induction ys with
  | nil => intro out z; simp [rowU]
  | cons y ys ih =>
    intro out z
    show z ∈ rowU x ys (addU out (x ||| y)) ↔ _
    rw [ih, mem_addU]
    simp only [List.mem_cons, exists_eq_or_imp, or_assoc]
theorem mem_allU_acc (ys : List Nat) (xs : List Nat) : ∀ out z, z ∈ xs.foldl (fun out x => rowU x ys out) out ↔ z ∈ out ∨ ∃ x ∈ xs, ∃ y ∈ ys, z = x ||| y := by
  induction xs with
  | nil => intro out z; simp
  | cons x xs ih =>
    intro out z
    rw [List.foldl_cons, ih, mem_rowU]
    simp only [List.mem_cons, exists_eq_or_imp, or_assoc]
theorem mem_allU (xs ys : List Nat) (z : Nat) : z ∈ allU xs ys ↔ ∃ x ∈ xs, ∃ y ∈ ys, z = x ||| y := by
  unfold allU
  rw [mem_allU_acc]; simp
theorem len_rowU (x : Nat) (ys : List Nat) : ∀ out, (rowU x ys out).length ≤ out.length + ys.length := by
  induction ys with
  | nil => intro out; simp [rowU]
  | cons y ys ih =>
    intro out
    show (rowU x ys (addU out (x ||| y))).length ≤ _
    refine Nat.le_trans (ih _) ?_
    unfold addU
    split <;> simp <;> omega
theorem len_allU_acc (ys : List Nat) (xs : List Nat) : ∀ out, (xs.foldl (fun out x => rowU x ys out) out).length ≤ out.length + xs.length * ys.length := by
  induction xs with
  | nil => intro out; simp
  | cons x xs ih =>
    intro out
    have h1 := ih (rowU x ys out)
    have h2 := len_rowU x ys out
    rw [List.foldl_cons, List.length_cons, Nat.succ_mul]
    omega
theorem or_mk {a b : Nat} (ha : Mk a) (hb : Mk b) : Mk (a ||| b) := by
  unfold Mk at *
  exact Nat.or_lt_two_pow (n := 24) ha hb
theorem or_int {a b : Nat} (ha : Mk a) (hb : Mk b) : bits .or .i64 (a : Int) (b : Int) = ((a ||| b : Nat) : Int) := or_i64 a b (by unfold Mk at ha; omega) (by unfold Mk at hb; omega)
end Go.Proofs.Ytcgfjacidjebaaa
