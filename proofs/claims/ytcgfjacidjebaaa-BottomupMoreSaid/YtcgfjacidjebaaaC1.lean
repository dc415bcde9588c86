/-
  Formulas in memory. Walks: formula.arguments, checkNode.
-/
import Derived.Test.YtcgfjacidjebaaaB1
import Derived.Test.YtcgfjacidjebaaaP3
import Derived.Deep.MidRow
namespace Go.Proofs.Ytcgfjacidjebaaa
open Go.RowKit

def NodeAt (w : World) (b o : Nat) (x : Nd) : Prop :=
  ∃ u, w.cell? ⟨b, o, none⟩ = some (.int .i64 x.kind) ∧ w.cell? ⟨b, o + 1, none⟩ = some (.int .i64 x.k) ∧ w.cell? ⟨b, o + 2, none⟩ = some u ∧ IntsAt w u x.args
/-- A slice of nodes that can be read. -/
def NodesAt (w : World) (v : Value) (xs : List Nd) : Prop :=
  ∃ (a : Option Addr) (c : Nat), v = .slice a xs.length c ∧ (xs.length ≤ c ∧ (a = none → c = 0)) ∧ xs.length ≤ 140737488355328 ∧
    ∀ i (h : i < xs.length), ∃ b o, a = some ⟨b, o, none⟩ ∧ NodeAt w b (o + i * 3) xs[i]
theorem node_range {w : World} {b o : Nat} {kind k : Int} {u : Value} (h1 : w.cell? ⟨b, o, none⟩ = some (.int .i64 kind)) (h2 : w.cell? ⟨b, o + 1, none⟩ = some (.int .i64 k)) (h3 : w.cell? ⟨b, o + 2, none⟩ = some u) : w.rangeAt b o [.int .i64 kind, .int .i64 k, u] := by
  intro j v hj
  match j, hj with
  | 0, hj => simp at hj; subst hj; exact h1
  | 1, hj => simp at hj; subst hj; exact h2
  | 2, hj => simp at hj; subst hj; exact h3
theorem NodeAt.kept {w w' : World} {b o : Nat} {x : Nd} (h : NodeAt w b o x) (hk : Kept w w') : NodeAt w' b o x := by
  obtain ⟨u, h1, h2, h3, h4⟩ := h
  exact ⟨u, hk.cell h1, hk.cell h2, hk.cell h3, h4.kept hk⟩
theorem NodesAt.kept {w w' : World} {v : Value} {xs : List Nd} (h : NodesAt w v xs) (hk : Kept w w') : NodesAt w' v xs := by
  obtain ⟨a, c, h1, h2, h3, h4⟩ := h
  exact ⟨a, c, h1, h2, h3, fun i hi => let ⟨b, o, h5, h6⟩ := h4 i hi; ⟨b, o, h5, h6.kept hk⟩⟩

set_option maxHeartbeats 1000000 in
theorem arguments_any (kind : Int) (n : Nat) (w : World) : Calls Try.prog 83 #[.int .i64 kind, .int .i64 n] w fun e w' => e = .returned (.bool (argsOk kind n)) ∧ w = w' := by
  unfold argsOk
  by_cases h0 : kind = 0
  · subst h0
    go_enter Try.func83, Try.ntmps83
    go_wp2
    go_ret
    exact ⟨by simp; congr 1; rw [Bool.eq_iff_iff]; simp; try omega, rfl⟩
  · rw [if_neg h0]
    by_cases h1 : kind = 1
    · subst h1
      go_enter Try.func83, Try.ntmps83
      go_wp2
      go_ret
      exact ⟨by simp; congr 1; rw [Bool.eq_iff_iff]; simp; try omega, rfl⟩
    · rw [if_neg h1]
      have b0 : (kind == 0) = false := by simpa using h0
      have b1 : (kind == 1) = false := by simpa using h1
      clear h0 h1
      by_cases h2 : 1 ≤ n
      · by_cases h3 : n ≤ 16
        · rw [decide_eq_true ⟨h2, h3⟩]
          have h4 : (n : Int) ≤ 16 := by omega
          go_enter Try.func83, Try.ntmps83
          go_wp2
          go_ret
          exact ⟨rfl, rfl⟩
        · rw [decide_eq_false fun h => h3 h.2]
          have h4 : ¬ (n : Int) ≤ 16 := by omega
          go_enter Try.func83, Try.ntmps83
          go_wp2
          go_ret
          exact ⟨rfl, rfl⟩
      · rw [decide_eq_false fun h => h2 h.1]
        have h4 : ¬ (1 : Int) ≤ (n : Int) := by omega
        go_enter Try.func83, Try.ntmps83
        go_wp2
        go_ret
        exact ⟨rfl, rfl⟩
end Go.Proofs.Ytcgfjacidjebaaa
