/-
  The laws of append, make and indexing for the slices of the call's own, in the words of B0.
-/
import Derived.Test.YtcgfjacidjebaaaB0
import Derived.Laws.AppendOwnNone
import Derived.Lib.AppendZerosOnto
import Derived.Lib.SliceRun
namespace Go.Proofs.Ytcgfjacidjebaaa
open Go.RowKit

theorem info_int : (Try.prog.info? 3).map (fun i => (i.zero, i.size, i.bytes)) = some (some (.int .i64 0), 1, 8) := by kernel_rfl
theorem info_ints : (Try.prog.info? 27).map (fun i => (i.zero, i.size, i.bytes)) = some (some (.slice none 0 0), 1, 24) := by kernel_rfl

variable {ops : Array Oper} {rest : List Oper} {o : Oper} {a : Act} {Q : Exit → Act → World → Prop} {w : World}

/-- append of one cell to a row of the call's own. -/
theorem app_one (t e : TypeId) (z : Value) (bytes : Nat) (hi : (Try.prog.info? e).map (fun i => (i.zero, i.size, i.bytes)) = some (some z, 1, bytes)) (ht : Try.prog.underlying t = some (.slice e)) (hz : z.cells.size = 1) (hgd : o.guard = none) (s x : Operand)
    (ho : o.op = .call { callee := .builtin .append, args := #[s, x], argTypes := #[t, t] }) (B : Nat) (v : Value) (xs : List Value) (hs : a.eval s = v) (hown : w.ownsRow B e 1 v xs.length xs)
    (ad : Addr) (y : Value) (hx : a.eval x = .slice (some ad) 1 1) (hc : w.cell? ad = some y) (h1 : y.oneCell' = true) (hl : (xs.length + 1) * bytes ≤ 140737488355328) (hl2 : xs.length + 1 ≤ maxLen) (hB : B ≤ w.heap.size)
    (h : ∀ v' w', w'.ownsRow B e 1 v' (xs ++ [y]).length (xs ++ [y]) → w.grownBy w' v.ownBlock → Below B w w' → wpList Try.prog ops Q rest (a.put o.dst v') w') : wpList Try.prog ops Q (o :: rest) a w := by
  obtain ⟨i0, hi0, hz0, hz1, hz2⟩ := info_parts hi
  refine wpList_append_own _ hgd s x t ho B e i0 z 1 bytes ht hi0 hz0 hz1 hz2 hz (by decide) v xs.length xs hs hown ad 1 1 [y] hx rfl ?_ ?_ hl2 hl hB ?_
  · intro j u hj
    match j, hj with
    | 0, hj => simp at hj; subst hj; simpa [Addr.add] using hc
  · intro u hu; simp at hu; subst hu; exact h1
  · intro v' w' h2 h3 _
    refine h v' w' ?_ h3 (grown_below h3 hown hB)
    simpa using h2

theorem app_int (hgd : o.guard = none) (s x : Operand)
    (ho : o.op = .call { callee := .builtin .append, args := #[s, x], argTypes := #[27, 27] }) (B : Nat) (v : Value) (xs : List Int) (hs : a.eval s = v) (hown : OwnInts w B v xs)
    (ad : Addr) (y : Int) (hx : a.eval x = .slice (some ad) 1 1) (hc : w.cell? ad = some (.int .i64 y)) (hl : xs.length < 17592186044416) (hB : B ≤ w.heap.size)
    (h : ∀ v' w', OwnInts w' B v' (xs ++ [y]) → w.grownBy w' v.ownBlock → Below B w w' → wpList Try.prog ops Q rest (a.put o.dst v') w') : wpList Try.prog ops Q (o :: rest) a w := by
  refine app_one 27 3 _ 8 info_int Try.underlying27 rfl hgd s x ho B v (xs.map (.int .i64)) hs (by simpa using hown.1) ad _ hx hc rfl (by simp; omega) (by simp [maxLen]; omega) hB ?_
  intro v' w' h2 h3 h4
  refine h v' w' ⟨?_, by simp; omega⟩ h3 h4
  simpa using h2

/-- append of a whole slice of ints. -/
theorem app_ints (hgd : o.guard = none) (s x : Operand)
    (ho : o.op = .call { callee := .builtin .append, args := #[s, x], argTypes := #[27, 27] }) (B : Nat) (v : Value) (xs : List Int) (hs : a.eval s = v) (hown : OwnInts w B v xs)
    (u : Value) (ys : List Int) (hx : a.eval x = u) (hu : IntsAt w u ys) (hl : xs.length + ys.length ≤ 17592186044416) (hB : B ≤ w.heap.size)
    (h : ∀ v' w', OwnInts w' B v' (xs ++ ys) → (∀ k, k < w.heap.size → some k ≠ v.ownBlock → w'.heap[k]? = w.heap[k]?) → Below B w w' → wpList Try.prog ops Q rest (a.put o.dst v') w') : wpList Try.prog ops Q (o :: rest) a w := by
  obtain ⟨i0, hi0, hz0, hz1, hz2⟩ := info_parts info_int
  obtain ⟨ad, c, rfl, ⟨hc, hcn⟩, hl2, hcell⟩ := hu
  cases ad with
  | none =>
    have hy : ys = [] := by
      cases ys with
      | nil => rfl
      | cons y ys => obtain ⟨b, o, h, _⟩ := hcell 0 (by simp); cases h
    subst hy
    rw [hcn rfl] at hx
    refine wpList_append_own_none hgd s x 27 ho B 3 i0 1 Try.underlying27 hi0 v xs.length _ hs hown.1 hx ?_
    exact h v w (by simpa using hown) (fun _ _ _ => rfl) (Below.refl _ _)
  | some ad =>
    refine wpList_append_own _ hgd s x 27 ho B 3 i0 _ 1 8 Try.underlying27 hi0 hz0 hz1 hz2 rfl (by decide) v xs.length _ hs hown.1 ad ys.length c (ys.map (.int .i64)) hx (by simp) ?_ ?_ (by simp [maxLen]; omega) (by omega) hB ?_
    · intro j u hj
      have hj' : j < ys.length := by
        rcases Nat.lt_or_ge j ys.length with h | h
        · exact h
        · rw [List.getElem?_eq_none (by simpa using h)] at hj; cases hj
      obtain ⟨b, o, h1, h2⟩ := hcell j hj'
      cases h1
      simp [hj'] at hj
      subst hj
      rcases Nat.eq_zero_or_pos j with h0 | h0
      · subst h0; simpa [Addr.add] using h2
      · simpa [Addr.add, Nat.ne_of_gt h0] using h2
    · intro u hu; obtain ⟨y, _, rfl⟩ := List.mem_map.1 hu; rfl
    · intro v' w' h2 h3 _
      refine h v' w' ⟨by simpa using h2, by simp; omega⟩ (fun k hk hne => h3.block k hk hne) (grown_below h3 hown.1 hB)
end Go.Proofs.Ytcgfjacidjebaaa
