/-
  Nodes of the call's own.
-/
import Derived.Test.YtcgfjacidjebaaaS4
import Derived.Test.YtcgfjacidjebaaaS6
namespace Go.Proofs.Ytcgfjacidjebaaa
open Go.RowKit

/-- A slice of nodes of the call's own, their arguments too. -/
def OwnNodes (w : World) (B : Nat) (v : Value) (xs : List Nd) : Prop :=
  ∃ cells : List Value, w.ownsRow B 47 3 v xs.length cells ∧ xs.length ≤ 1000 ∧
    ∀ i (h : i < xs.length), ∃ u, cells[i * 3]? = some (.int .i64 xs[i].kind) ∧ cells[i * 3 + 1]? = some (.int .i64 xs[i].k) ∧ cells[i * 3 + 2]? = some u ∧ OwnInts w 0 u xs[i].args
theorem OwnNodes.kept {w w' : World} {B : Nat} {v : Value} {xs : List Nd} (h : OwnNodes w B v xs) (hk : Kept w w') : OwnNodes w' B v xs := by
  obtain ⟨cells, h1, h2, h3⟩ := h
  exact ⟨cells, own_kept h1 hk, h2, fun i hi => let ⟨u, a, b, c, d⟩ := h3 i hi; ⟨u, a, b, c, d.kept hk⟩⟩
theorem OwnNodes.slice {w : World} {B : Nat} {v : Value} {xs : List Nd} (h : OwnNodes w B v xs) : ∃ a c, v = .slice a xs.length c := by
  obtain ⟨cells, ⟨_, h⟩, _⟩ := h
  rcases h with ⟨rfl, h0⟩ | ⟨g, cp, _, rfl, _⟩
  · exact ⟨none, 0, by rw [h0]⟩
  · exact ⟨_, _, rfl⟩
theorem OwnNodes.at {w : World} {B : Nat} {v : Value} {xs : List Nd} (h : OwnNodes w B v xs) : NodesAt w v xs := by
  obtain ⟨cells, ⟨h1, h2⟩, h3, h4⟩ := h
  rcases h2 with ⟨rfl, h6⟩ | ⟨g, cap, cur, rfl, h6, h7, h8, h9, h10, h11⟩
  · have : xs = [] := List.eq_nil_of_length_eq_zero h6
    subst this
    exact ⟨none, 0, rfl, ⟨by simp, fun _ => rfl⟩, by simp, fun i h => by simp at h⟩
  · refine ⟨some ⟨g, 0, none⟩, cap, rfl, ⟨h8, fun h => by cases h⟩, by omega, fun i hi => ⟨g, 0, rfl, ?_⟩⟩
    obtain ⟨u, a, b, c, d⟩ := h4 i hi
    have hc : ∀ j, j < xs.length * 3 → w.cell? ⟨g, 0 + j, none⟩ = cells[j]? := by
      intro j hj
      have e1 : (cur.toList.take (xs.length * 3))[j]? = cells[j]? := by rw [h11]
      rw [List.getElem?_take_of_lt hj] at e1
      simp only [World.cell?, h7, Nat.zero_add]
      simpa using e1
    refine ⟨u, ?_, ?_, ?_, d.ints⟩
    · rw [hc _ (by omega)]; exact a
    · rw [Nat.add_assoc, hc _ (by omega)]; exact b
    · rw [Nat.add_assoc, hc _ (by omega)]; exact c
theorem app_node {ops : Array Oper} {rest : List Oper} {o : Oper} {a : Act} {Q : Exit → Act → World → Prop} {w : World} (hgd : o.guard = none) (s x : Operand)
    (ho : o.op = .call { callee := .builtin .append, args := #[s, x], argTypes := #[22, 22] }) (B : Nat) (v : Value) (xs : List Nd) (hs : a.eval s = v) (hown : OwnNodes w B v xs)
    (g : Nat) (y : Nd) (u : Value) (hx : a.eval x = .slice (some ⟨g, 0, none⟩) 1 1) (hc : w.rangeAt g 0 [.int .i64 y.kind, .int .i64 y.k, u]) (hu : OwnInts w 0 u y.args) (hl : xs.length < 1000) (hB : B ≤ w.heap.size)
    (h : ∀ v' w', OwnNodes w' B v' (xs ++ [y]) → w.grownBy w' v.ownBlock → Below B w w' → wpList Try.prog ops Q rest (a.put o.dst v') w') : wpList Try.prog ops Q (o :: rest) a w := by
  obtain ⟨i0, hi0, hz0, hz1, hz2⟩ := info_parts info_node
  obtain ⟨cells, hown1, hkl, hcell⟩ := hown
  obtain ⟨sa, sn, sc, rfl⟩ := hu.ints.shape
  refine wpList_append_own _ hgd s x 22 ho B 47 i0 _ 3 40 Try.underlying22 hi0 hz0 hz1 hz2 rfl (by decide) v xs.length cells hs hown1 ⟨g, 0, none⟩ 1 1 [.int .i64 y.kind, .int .i64 y.k, .slice sa sn sc] hx rfl ?_ ?_ (by unfold maxLen; omega) (by omega) hB ?_
  · intro j u hj
    have := hc j u hj
    rw [Addr.add_mid]; exact this
  · intro u hu
    simp at hu
    rcases hu with rfl | rfl | rfl <;> rfl
  · intro v' w' h3 h4 _
    have hg : ∀ k, k < w.heap.size → some k ≠ v.ownBlock → w'.heap[k]? = w.heap[k]? := fun k hk hne => h4.block k hk hne
    refine h v' w' ⟨cells ++ [.int .i64 y.kind, .int .i64 y.k, .slice sa sn sc], by simpa using h3, by simp; omega, ?_⟩ h4 (grown_below h4 hown1 hB)
    intro i hi
    simp at hi
    have hcl : cells.length = xs.length * 3 := hown1.1
    by_cases hik : i < xs.length
    · obtain ⟨u, e0, e1, e2, e3⟩ := hcell i hik
      rw [List.getElem_append_left hik]
      refine ⟨u, ?_, ?_, ?_, ⟨own_tag e3.1 hown1 (by decide) hg, e3.2⟩⟩
      · rw [List.getElem?_append_left (by omega), e0]
      · rw [List.getElem?_append_left (by omega), e1]
      · rw [List.getElem?_append_left (by omega), e2]
    · have e : i = xs.length := by omega
      subst e
      rw [List.getElem_append_right (Nat.le_refl _)]
      simp only [Nat.sub_self, List.getElem_cons_zero]
      refine ⟨.slice sa sn sc, ?_, ?_, ?_, ⟨own_tag hu.1 hown1 (by decide) hg, hu.2⟩⟩
      · rw [List.getElem?_append_right (by omega), hcl]; simp
      · rw [List.getElem?_append_right (by omega), hcl]; simp
      · rw [List.getElem?_append_right (by omega), hcl]; simp
/-- What Cuts answers to a coherent formula. -/
theorem cuts_syn (v : Value) (f : Fm) (V T : Nat) (hok : Ok f V T) (hck : chkF f = 0) (hsy : synK V T f = true) (hs : ∃ a n c, v = .slice a n c) :
    (∀ W, NodesAt W v f.nodes → Calls Try.prog 18 #[.agg #[.int .i64 V, v, .int .i64 T]] W fun e w' => e = .returned (.tuple #[.slice none 0 0, errV 4]) ∧ Kept W w') ∨
    (∃ l, famsK V T f.nodes = some l ∧ ∀ W, NodesAt W v f.nodes → Calls Try.prog 18 #[.agg #[.int .i64 V, v, .int .i64 T]] W fun e w' => (∃ v', e = .returned (.tuple #[v', .nilIface]) ∧ OwnSets w' 0 v' (if T < V then [2 ^ T] else l.getD (T - V) [])) ∧ Kept W w') := by
  have hfm : fmV v f = .agg #[.int .i64 V, v, .int .i64 T] := by unfold fmV; rw [hok.vars, hok.top]
  cases hl : famsK V T f.nodes with
  | none =>
    have h4 : ∀ W, NodesAt W v f.nodes → Calls Try.prog 23 #[.agg #[.int .i64 V, v, .int .i64 T]] W fun e w' => e = .returned (.tuple #[.slice none 0 0, errV 4]) ∧ Kept W w' := fun W hW => by
      have := families_ok v f V T W hW hok hck hsy
      rw [hl] at this
      exact this
    refine .inl fun W hW => ?_
    have := cuts_err v f 4 (by omega) W hs (fun W' hk => by rw [hfm]; exact h4 W' (hW.kept hk))
    rw [hfm] at this
    exact this
  | some l => exact .inr ⟨l, rfl, fun W hW => cuts_ok v f V T l W hok hs hl fun W' hk => families_good v f V T W' l (hW.kept hk) hok hck hsy hl⟩
end Go.Proofs.Ytcgfjacidjebaaa
