/-
  What Families and Cuts answer, by cases; the formula in its block.
-/
import Derived.Test.YtcgfjacidjebaaaF5
import Derived.Test.YtcgfjacidjebaaaF6
import Derived.Test.YtcgfjacidjebaaaG0
namespace Go.Proofs.Ytcgfjacidjebaaa
open Go.RowKit

theorem fm_range {w w1 : World} {x y z : Value} {e : TypeId} (hk : Kept (w.alloc (.cells #[x, y, z] e)) w1) : w1.rangeAt w.heap.size 0 [x, y, z] := by
  intro j v hj
  match j, hj with
  | 0, hj => simp at hj; subst hj; exact hk.cell (p := ⟨w.heap.size, 0, none⟩) (by simp)
  | 1, hj => simp at hj; subst hj; exact hk.cell (p := ⟨w.heap.size, 1, none⟩) (by simp)
  | 2, hj => simp at hj; subst hj; exact hk.cell (p := ⟨w.heap.size, 2, none⟩) (by simp)
theorem fm_cells {w w1 : World} {x y z : Value} {e : TypeId} (hk : Kept (w.alloc (.cells #[x, y, z] e)) w1) : w1.cell? ⟨w.heap.size, 0, none⟩ = some x ∧ w1.cell? ⟨w.heap.size, 1, none⟩ = some y ∧ w1.cell? ⟨w.heap.size, 2, none⟩ = some z :=
  ⟨hk.cell (p := ⟨w.heap.size, 0, none⟩) (by simp), hk.cell (p := ⟨w.heap.size, 1, none⟩) (by simp), hk.cell (p := ⟨w.heap.size, 2, none⟩) (by simp)⟩
/-- The answers of Families and Cuts to a formula that Check accepts. -/
theorem fam_cases (v : Value) (f : Fm) (V T : Nat) (hok : Ok f V T) (hck : chkF f = 0) (hs : ∃ a n c, v = .slice a n c) :
    (∃ q, (q = 4 ∨ q = 7) ∧ ∀ W, NodesAt W v f.nodes → (Calls Try.prog 23 #[.agg #[.int .i64 V, v, .int .i64 T]] W fun e w' => e = .returned (.tuple #[.slice none 0 0, errV q]) ∧ Kept W w') ∧
      (Calls Try.prog 18 #[.agg #[.int .i64 V, v, .int .i64 T]] W fun e w' => e = .returned (.tuple #[.slice none 0 0, errV q]) ∧ Kept W w')) ∨
    (∃ l, famsK V T f.nodes = some l ∧ synK V T f = true ∧ ∀ W, NodesAt W v f.nodes → (Calls Try.prog 23 #[.agg #[.int .i64 V, v, .int .i64 T]] W fun e w' => (∃ v', e = .returned (.tuple #[v', .nilIface]) ∧ OwnFams w' 0 v' l) ∧ Kept W w') ∧
      (Calls Try.prog 18 #[.agg #[.int .i64 V, v, .int .i64 T]] W fun e w' => (∃ v', e = .returned (.tuple #[v', .nilIface]) ∧ OwnSets w' 0 v' (if T < V then [2 ^ T] else l.getD (T - V) [])) ∧ Kept W w')) := by
  have hfm : fmV v f = .agg #[.int .i64 V, v, .int .i64 T] := by unfold fmV; rw [hok.vars, hok.top]
  cases hsy : synK V T f with
  | false =>
    refine .inl ⟨7, .inr rfl, fun W hW => ⟨families_typed v f V T W hW hok hck hsy, ?_⟩⟩
    have := cuts_err v f 7 (by omega) W hs (fun W' hk => by rw [hfm]; exact families_typed v f V T W' (hW.kept hk) hok hck hsy)
    rw [hfm] at this
    exact this
  | true =>
    cases hl : famsK V T f.nodes with
    | none =>
      have h4 : ∀ W, NodesAt W v f.nodes → Calls Try.prog 23 #[.agg #[.int .i64 V, v, .int .i64 T]] W fun e w' => e = .returned (.tuple #[.slice none 0 0, errV 4]) ∧ Kept W w' := fun W hW => by
        have := families_ok v f V T W hW hok hck hsy
        rw [hl] at this
        exact this
      refine .inl ⟨4, .inl rfl, fun W hW => ⟨h4 W hW, ?_⟩⟩
      have := cuts_err v f 4 (by omega) W hs (fun W' hk => by rw [hfm]; exact h4 W' (hW.kept hk))
      rw [hfm] at this
      exact this
    | some l =>
      refine .inr ⟨l, rfl, rfl, fun W hW => ⟨families_good v f V T W l hW hok hck hsy hl, ?_⟩⟩
      exact cuts_ok v f V T l W hok hs hl fun W' hk => families_good v f V T W' l (hW.kept hk) hok hck hsy hl
end Go.Proofs.Ytcgfjacidjebaaa
