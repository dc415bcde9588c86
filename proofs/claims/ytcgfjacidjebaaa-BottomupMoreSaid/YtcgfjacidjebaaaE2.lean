/-
  Walks: bottomup.vote.
-/
import Derived.Test.YtcgfjacidjebaaaE1
namespace Go.Proofs.Ytcgfjacidjebaaa
open Go.RowKit

theorem OwnFams.mono {w : World} {B B' : Nat} {v : Value} {xss : List (List Nat)} (h : OwnFams w B v xss) (hb : B' ≤ B) : OwnFams w B' v xss := by
  obtain ⟨us, h1, h2, h3, h4⟩ := h
  exact ⟨us, h1, own_mono h2 hb, h3, h4⟩
theorem OwnSets.one (w : World) (B : Nat) (s : Nat) (hs : Mk s) (hB : B ≤ w.heap.size) : OwnSets (w.alloc (.cells #[.int .i64 s] 3)) B (.slice (some ⟨w.heap.size, 0, none⟩) 1 1) [s] :=
  ⟨⟨⟨by simp, .inr ⟨w.heap.size, 1, #[.int .i64 s], rfl, hB, heap_alloc_new w _, Nat.le_refl _, by unfold maxLen; omega, by simp, by simp⟩⟩, by simp⟩, by simpa using hs⟩
theorem OwnFams.one {w : World} {B : Nat} {u : Value} {ns : List Nat} (hu : OwnSets w 0 u ns) (hB : B ≤ w.heap.size) : OwnFams (w.alloc (.cells #[u] 27)) B (.slice (some ⟨w.heap.size, 0, none⟩) 1 1) [ns] :=
  ⟨[u], rfl, ⟨by simp, .inr ⟨w.heap.size, 1, #[u], rfl, hB, heap_alloc_new w _, Nat.le_refl _, by unfold maxLen; omega, by simp, by simp⟩⟩, by simp, fun i h h' => by
    have e : i = 0 := by simp at h; omega
    subst e
    exact hu.kept ((Kept.refl _).alloc _)⟩
theorem OwnSets.nils (w : World) (B : Nat) : OwnSets w B (.slice none 0 0) [] := ⟨OwnInts.nil _ _, by simp⟩
/-- A row of families whose place i is replaced. -/
theorem OwnFams.store {w : World} {B g n cap : Nat} {xss : List (List Nat)} (h : OwnFams w B (.slice (some ⟨g, 0, none⟩) n cap) xss) (hn : n = xss.length) (i : Nat) {u : Value} {ys : List Nat} (hu : OwnSets w 0 u ys) :
    OwnFams (w.setCell ⟨g, i, none⟩ u) B (.slice (some ⟨g, 0, none⟩) n cap) (xss.set i ys) := by
  obtain ⟨us, h1, h2, h3, h4⟩ := h
  subst hn
  have h5 := h2.stored i u
  refine ⟨us.set i u, by simp [h1], by simpa using h5.1, by simpa using h3, fun j hj hj' => ?_⟩
  have hg : ∀ k, k < w.heap.size → some k ≠ (Value.slice (some ⟨g, 0, none⟩) xss.length cap).ownBlock → (w.setCell ⟨g, i, none⟩ u).heap[k]? = w.heap[k]? := fun k hk hne => h5.2.block k hk hne
  by_cases e : i = j
  · subst e
    rw [List.getElem_set_self, List.getElem_set_self]
    exact hu.tag h2 (by decide) hg
  · rw [List.getElem_set_ne e, List.getElem_set_ne e]
    exact (h4 j (by simpa using hj) (by simpa using hj')).tag h2 (by decide) hg
theorem make_fam {ops : Array Oper} {rest : List Oper} {o : Oper} {a : Act} {Q : Exit → Act → World → Prop} {w : World} (hg : o.guard = none) (l c : Operand)
    (hop : o.op = Op.makeSlice 37 l c) (n : Nat) (hl : a.eval l = .int .i64 n) (hc : a.eval c = .int .i64 n) (hb : n ≤ 1000000)
    (hK : ∀ w', OwnFams w' w.heap.size (.slice (some ⟨w.heap.size, 0, none⟩) n n) (List.replicate n []) → Kept w w' → w.heap.size < w'.heap.size → wpList Try.prog ops Q rest (a.put o.dst (.slice (some ⟨w.heap.size, 0, none⟩) n n)) w') : wpList Try.prog ops Q (o :: rest) a w := by
  obtain ⟨i0, hi0, hz0, hz1, hz2⟩ := info_parts info_ints
  refine wpList_make_full w hg l c 37 hop w.heap.size 27 i0 _ 1 Try.underlying37 hi0 hz0 hz1 .i64 .i64 _ _ n hl hc rfl rfl (by rw [hz2]; omega) (by unfold maxLen; omega) (Nat.le_refl _) ?_
  intro w' h1 h2
  rw [made_one _ rfl n] at h1
  refine hK w' ⟨List.replicate n (.slice none 0 0), by simp, by simpa using h1, by simp; omega, fun i h h' => by simp [OwnSets.nils]⟩ ⟨h2.os, h2.tape, h2.output, h2.size, fun k hk => h2.block k hk (by simp)⟩ ?_
  exact (h1.lt _ rfl).2
theorem OwnFams.cell {w : World} {B g n cap : Nat} {xss : List (List Nat)} (h : OwnFams w B (.slice (some ⟨g, 0, none⟩) n cap) xss) (i : Nat) (hi : i < xss.length) : ∃ u, w.cell? ⟨g, i, none⟩ = some u ∧ OwnSets w 0 u xss[i] := by
  obtain ⟨us, h1, h2, h3, h4⟩ := h
  refine ⟨us[i]'(by omega), ?_, h4 i (by omega) hi⟩
  obtain ⟨h5, h6⟩ := h2
  rcases h6 with ⟨h6, _⟩ | ⟨g', cap', cur, h6, _, h7, h8, h9, h10, h11⟩
  · cases h6
  · cases h6
    have e1 : (cur.toList.take (xss.length * 1))[i]? = us[i]? := by rw [h11]
    rw [List.getElem?_take_of_lt (by omega)] at e1
    simp only [World.cell?, h7]
    simpa [h1, hi] using e1
theorem OwnFams.free {w : World} {B g n cap : Nat} {xss : List (List Nat)} (h : OwnFams w B (.slice (some ⟨g, 0, none⟩) n cap) xss) (i : Nat) : w.frozen? ⟨g, i, none⟩ = false := by
  obtain ⟨us, h1, ⟨h2, h3⟩, _⟩ := h
  rcases h3 with ⟨h3, _⟩ | ⟨g', cap', cur, h3, _, h4, _⟩
  · cases h3
  · cases h3
    simp [World.frozen?, h4]
theorem OwnFams.shape {w : World} {B : Nat} {v : Value} {xss : List (List Nat)} (h : OwnFams w B v xss) (h0 : xss ≠ []) : ∃ g cap, v = .slice (some ⟨g, 0, none⟩) xss.length cap ∧ B ≤ g ∧ g < w.heap.size ∧ xss.length ≤ cap := by
  obtain ⟨us, h1, ⟨h2, h3⟩, _⟩ := h
  rcases h3 with ⟨_, h3⟩ | ⟨g, cap, cur, rfl, h4, h5, h6, _⟩
  · exact absurd (List.eq_nil_of_length_eq_zero h3) h0
  · exact ⟨g, cap, rfl, h4, heap_lt h5, h6⟩

/-- One place of the next row. -/
def nextAt (arg : List Nat) (t : List (List Nat)) (m : Nat) : Option (List Nat) := (productK arg (t.getD m [])).bind fun x => plusK x (t.getD (m + 1) [])
def voteUp (arg : List Nat) (t : List (List Nat)) : Nat → Option (List (List Nat))
  | 0 => some [[0]]
  | m + 1 => (voteUp arg t m).bind fun acc => (nextAt arg t m).map fun x => acc ++ [x]
def voteDown (k : Nat) (args : List (List Nat)) : Nat → List (List Nat) → Option (List (List Nat))
  | 0, t => some t
  | q + 1, t => (voteUp (args.getD q []) t k).bind (voteDown k args q)
/-- The sets of which at least k arguments are true. -/
def voteK (args : List (List Nat)) (k : Nat) : Option (List Nat) := (voteDown k args args.length ([0] :: List.replicate k [])).map fun t => t.getD k []
theorem len_voteUp (arg : List Nat) (t : List (List Nat)) : ∀ m acc, voteUp arg t m = some acc → acc.length = m + 1 := by
  intro m
  induction m with
  | zero => intro acc h; cases h; rfl
  | succ m ih =>
    intro acc h
    unfold voteUp at h
    cases h1 : voteUp arg t m with
    | none => rw [h1] at h; cases h
    | some a =>
      rw [h1] at h
      simp only [Option.bind_some] at h
      cases h2 : nextAt arg t m with
      | none => rw [h2] at h; cases h
      | some x => rw [h2] at h; cases h; simp [ih a h1]
theorem voteUp_none (arg : List Nat) (t : List (List Nat)) (m : Nat) (h : voteUp arg t m = none) : ∀ k, m ≤ k → voteUp arg t k = none := by
  intro k hk
  induction k with
  | zero => have : m = 0 := by omega
            subst this; exact h
  | succ k ih =>
    by_cases e : m = k + 1
    · subst e; exact h
    · unfold voteUp; rw [ih (by omega)]; rfl
end Go.Proofs.Ytcgfjacidjebaaa
