/-
  Walks: faultlinelaw31.Example.
-/
import Derived.Test.YtcgfjacidjebaaaC1
import Derived.Test.YtcgfjacidjebaaaF1
namespace Go.Proofs.Ytcgfjacidjebaaa
open Go.RowKit

/-- The document's example. -/
def exN : List Nd := [⟨3, 0, [0, 1]⟩, ⟨3, 0, [0, 2]⟩, ⟨2, 0, [3, 4]⟩]
theorem alloc_cell {w : World} {cs : Array Value} {e : TypeId} {g : Nat} (hg : g = w.heap.size) {j : Nat} {u : Value} (h : cs[j]? = some u) : (w.alloc (.cells cs e)).cell? ⟨g, j, none⟩ = some u := by
  subst hg
  simp only [World.cell?, heap_alloc_new]
  exact h
theorem pair_at {W : World} {g : Nat} {x y : Int} (h0 : W.cell? ⟨g, 0, none⟩ = some (.int .i64 x)) (h1 : W.cell? ⟨g, 1, none⟩ = some (.int .i64 y)) : IntsAt W (.slice (some ⟨g, 0, none⟩) 2 2) [x, y] := by
  refine ⟨_, 2, rfl, ⟨Nat.le_refl _, fun h => by cases h⟩, by simp, fun i hi => ⟨g, 0, rfl, ?_⟩⟩
  match i, hi with
  | 0, _ => simpa using h0
  | 1, _ => simpa using h1
set_option maxRecDepth 100000 in
set_option maxHeartbeats 2000000 in
theorem example_ok (w : World) : Calls Try.prog 47 #[] w fun e w' => (∃ v, e = .returned (.agg #[.int .i64 3, v, .int .i64 5]) ∧ (∃ a n c, v = .slice a n c) ∧ NodesAt w' v exN) ∧ Kept w w' := by
  go_enter Try.func47, Try.ntmps47
  go_wp2
  generalize hW : World.alloc _ (.cells #[.int .i64 3, .int .i64 0, _, .int .i64 3, .int .i64 0, _, .int .i64 2, .int .i64 0, _] 47) = W
  have hk : Kept w W := by rw [← hW]; exact (((((Kept.refl w).alloc _).alloc _).alloc _).alloc _).alloc _
  have hs : ∀ (j : Nat) (u : Value), (#[.int .i64 3, .int .i64 0, .slice (some ⟨w.heap.size + 1, 0, none⟩) 2 2, .int .i64 3, .int .i64 0, .slice (some ⟨w.heap.size + 1 + 1, 0, none⟩) 2 2, .int .i64 2, .int .i64 0, .slice (some ⟨w.heap.size + 1 + 1 + 1, 0, none⟩) 2 2] : Array Value)[j]? = some u → W.cell? ⟨w.heap.size + 1 + 1 + 1 + 1, j, none⟩ = some u := by
    intro j u h
    rw [← hW]
    exact alloc_cell (by simp [World.size_alloc]) h
  have h1 : IntsAt W (.slice (some ⟨w.heap.size + 1, 0, none⟩) 2 2) [0, 1] := pair_at (by rw [← hW]; exact Kept.cell ((((Kept.refl _).alloc _).alloc _).alloc _) (alloc_cell (by simp [World.size_alloc]) rfl)) (by rw [← hW]; exact Kept.cell ((((Kept.refl _).alloc _).alloc _).alloc _) (alloc_cell (by simp [World.size_alloc]) rfl))
  have h2 : IntsAt W (.slice (some ⟨w.heap.size + 1 + 1, 0, none⟩) 2 2) [0, 2] := pair_at (by rw [← hW]; exact Kept.cell (((Kept.refl _).alloc _).alloc _) (alloc_cell (by simp [World.size_alloc]) rfl)) (by rw [← hW]; exact Kept.cell (((Kept.refl _).alloc _).alloc _) (alloc_cell (by simp [World.size_alloc]) rfl))
  have h3 : IntsAt W (.slice (some ⟨w.heap.size + 1 + 1 + 1, 0, none⟩) 2 2) [3, 4] := pair_at (by rw [← hW]; exact Kept.cell ((Kept.refl _).alloc _) (alloc_cell (by simp [World.size_alloc]) rfl)) (by rw [← hW]; exact Kept.cell ((Kept.refl _).alloc _) (alloc_cell (by simp [World.size_alloc]) rfl))
  have r0 : W.cell? ⟨w.heap.size, 0, none⟩ = some (.int .i64 3) := by rw [← hW]; exact Kept.cell (((((Kept.refl _).alloc _).alloc _).alloc _).alloc _) (alloc_cell rfl rfl)
  have r1 : W.cell? ⟨w.heap.size, 1, none⟩ = some (.slice (some ⟨w.heap.size + 1 + 1 + 1 + 1, 0, none⟩) 3 3) := by rw [← hW]; exact Kept.cell (((((Kept.refl _).alloc _).alloc _).alloc _).alloc _) (alloc_cell rfl rfl)
  have r2 : W.cell? ⟨w.heap.size, 2, none⟩ = some (.int .i64 5) := by rw [← hW]; exact Kept.cell (((((Kept.refl _).alloc _).alloc _).alloc _).alloc _) (alloc_cell rfl rfl)
  refine bodyPost_ret (v := .agg #[.int .i64 3, .slice (some ⟨w.heap.size + 1 + 1 + 1 + 1, 0, none⟩) 3 3, .int .i64 5]) (by simp [results, Try.results47, go_sem, r0, r1, r2]) rfl ?_
  refine ⟨⟨_, rfl, ⟨_, _, _, rfl⟩, _, 3, rfl, ⟨Nat.le_refl _, fun h => by cases h⟩, by decide, fun i hi => ⟨_, 0, rfl, ?_⟩⟩, hk⟩
  match i, hi with
  | 0, _ => exact ⟨_, hs 0 _ rfl, hs 1 _ rfl, hs 2 _ rfl, h1⟩
  | 1, _ => exact ⟨_, hs 3 _ rfl, hs 4 _ rfl, hs 5 _ rfl, h2⟩
  | 2, _ => exact ⟨_, hs 6 _ rfl, hs 7 _ rfl, hs 8 _ rfl, h3⟩
end Go.Proofs.Ytcgfjacidjebaaa
