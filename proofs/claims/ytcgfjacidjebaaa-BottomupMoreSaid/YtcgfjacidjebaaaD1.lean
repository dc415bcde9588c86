/-
  Rows of the call's own that are stored into: laws.
-/
import Derived.Test.YtcgfjacidjebaaaB1
namespace Go.Proofs.Ytcgfjacidjebaaa
open Go.RowKit

/-- Block g is a row whose first cells are xs; none is frozen. -/
def RowAt (w : World) (g : Nat) (e : TypeId) (xs : List Value) : Prop :=
  ∃ cur, w.heap[g]? = some (.cells cur e (0, 0)) ∧ xs.length ≤ cur.size ∧ cur.toList.take xs.length = xs
theorem RowAt.made (w : World) (cs : Array Value) (e : TypeId) : RowAt (w.alloc (.cells cs e)) w.heap.size e cs.toList :=
  ⟨cs, heap_alloc_new w _, by simp, List.take_of_length_le (by simp)⟩
theorem RowAt.lt {w : World} {g : Nat} {e : TypeId} {xs : List Value} (h : RowAt w g e xs) : g < w.heap.size := by
  obtain ⟨cur, h1, _⟩ := h
  rcases Nat.lt_or_ge g w.heap.size with h2 | h2
  · exact h2
  · simp [Array.getElem?_eq_none h2] at h1
theorem RowAt.kept {w w' : World} {g : Nat} {e : TypeId} {xs : List Value} (h : RowAt w g e xs) (hk : Kept w w') : RowAt w' g e xs := by
  have hl := h.lt
  obtain ⟨cur, h1, h2⟩ := h
  exact ⟨cur, (hk.block g hl).trans h1, h2⟩
theorem RowAt.same {w w' : World} {g : Nat} {e : TypeId} {xs : List Value} (h : RowAt w g e xs) (hk : w'.heap[g]? = w.heap[g]?) : RowAt w' g e xs := by
  obtain ⟨cur, h1, h2⟩ := h
  exact ⟨cur, hk.trans h1, h2⟩
theorem RowAt.cell {w : World} {g : Nat} {e : TypeId} {xs : List Value} (h : RowAt w g e xs) {i : Nat} (hi : i < xs.length) : w.cell? ⟨g, i, none⟩ = some xs[i] := by
  obtain ⟨cur, h1, h2, h3⟩ := h
  have e1 : (cur.toList.take xs.length)[i]? = xs[i]? := by rw [h3]
  rw [List.getElem?_take_of_lt hi] at e1
  simp only [World.cell?, h1]
  simpa [hi] using e1
theorem RowAt.free {w : World} {g : Nat} {e : TypeId} {xs : List Value} (h : RowAt w g e xs) (i : Nat) : w.frozen? ⟨g, i, none⟩ = false := by
  obtain ⟨cur, h1, _⟩ := h
  simp [World.frozen?, h1]
theorem RowAt.store {w : World} {g : Nat} {e : TypeId} {xs : List Value} (h : RowAt w g e xs) (i : Nat) (u : Value) : RowAt (w.setCell ⟨g, i, none⟩ u) g e (xs.set i u) := by
  obtain ⟨cur, h1, h2, h3⟩ := h
  refine ⟨cur.setIfInBounds i u, by simp [World.setCell, Array.getElem?_modify, h1], by simpa using h2, ?_⟩
  rw [List.length_set, Array.toList_setIfInBounds, List.take_set, h3]
theorem Kept.store {w0 w : World} (h : Kept w0 w) {g : Nat} (hg : w0.heap.size ≤ g) (i : Nat) (u : Value) : Kept w0 (w.setCell ⟨g, i, none⟩ u) := Below.setCell h hg u
theorem RowAt.other {w : World} {g : Nat} {e : TypeId} {xs : List Value} (h : RowAt w g e xs) {p : Nat} (hp : g ≠ p) (i : Nat) (u : Value) : RowAt (w.setCell ⟨p, i, none⟩ u) g e xs :=
  h.same (Below.heap_setCell w ⟨p, i, none⟩ u g hp)
theorem cell_other {w : World} {a : Addr} {v : Value} (h : w.cell? a = some v) {p : Nat} (hp : a.block ≠ p) (i : Nat) (u : Value) : (w.setCell ⟨p, i, none⟩ u).cell? a = some v :=
  (World.cell?_of_block (w := w) (Below.heap_setCell w ⟨p, i, none⟩ u a.block hp)).trans h
theorem RowAt.ints {w : World} {g : Nat} {xs : List Int} {c : Nat} (h : RowAt w g 3 (xs.map (.int .i64))) (hc : xs.length ≤ c) (hl : xs.length ≤ 140737488355328) : IntsAt w (.slice (some ⟨g, 0, none⟩) xs.length c) xs :=
  ⟨_, c, rfl, ⟨hc, fun h => by cases h⟩, hl, fun i hi => ⟨g, 0, rfl, by have := h.cell (i := i) (by simpa using hi); simpa using this⟩⟩

theorem made_one (z : Value) (hz : z.cells = #[z]) (n : Nat) : (madeCells z.cells (n * 1)).toList = List.replicate n z := by
  rw [hz]
  unfold madeCells
  apply List.ext_getElem
  · simp
  · intro i h1 h2
    simp [Nat.mod_one]
theorem info_bool : (Try.prog.info? 4).map (fun i => (i.zero, i.size, i.bytes)) = some (some (.bool false), 1, 1) := by kernel_rfl
variable {ops : Array Oper} {rest : List Oper} {o : Oper} {a : Act} {Q : Exit → Act → World → Prop} {w : World}
theorem make_one (t e : TypeId) (z : Value) (bytes : Nat) (hi : (Try.prog.info? e).map (fun i => (i.zero, i.size, i.bytes)) = some (some z, 1, bytes)) (ht : Try.prog.underlying t = some (.slice e)) (hz : z.cells = #[z]) (hg : o.guard = none) (l c : Operand)
    (hop : o.op = Op.makeSlice t l c) (n : Nat) (hl : a.eval l = .int .i64 n) (hc : a.eval c = .int .i64 n) (hb : bytes * n ≤ 281474976710656) (hm : n ≤ maxLen)
    (hK : ∀ w', RowAt w' w.heap.size e (List.replicate n z) → Kept w w' → wpList Try.prog ops Q rest (a.put o.dst (.slice (some ⟨w.heap.size, 0, none⟩) n n)) w') : wpList Try.prog ops Q (o :: rest) a w := by
  obtain ⟨i0, hi0, hz0, hz1, hz2⟩ := info_parts hi
  refine wpList_make_full w hg l c t hop w.heap.size e i0 z 1 ht hi0 hz0 hz1 .i64 .i64 _ _ n hl hc rfl rfl (by rw [hz2]; exact hb) hm (Nat.le_refl _) ?_
  intro w' h1 h2
  rw [made_one z hz n] at h1
  refine hK w' ?_ ⟨h2.os, h2.tape, h2.output, h2.size, fun k hk => h2.block k hk (by simp)⟩
  obtain ⟨h3, h4⟩ := h1
  rcases h4 with ⟨h4, _⟩ | ⟨g, cap, cur, h4, h5, h6, h7, h8, h9, h10⟩
  · cases h4
  · cases h4
    exact ⟨cur, h6, by simp; omega, by simpa using h10⟩
end Go.Proofs.Ytcgfjacidjebaaa
