import Derived.Test.YtngbjdaaogbjmaaGreatX7m
import Derived.Test.YtngbjdaaogbjmaaGreatX6m
import Derived.Test.YtngbjdaaogbjmaaGreatR7m
import Derived.Deep.AppendLies
/-
  Walks: faultlineref31.Run.
-/
namespace Go.Proofs.YtngbjdaaogbjmaaGreat
open Go.RowKit
variable {Z : Option Nat}

theorem own_grown {w w' : World} {B : Nat} {e : TypeId} {size : Nat} {v : Value} {n : Nat} {xs : List Value} {ob : Option Nat} (h : w.ownsRow B e size v n xs) (hg : w.grownBy w' ob) (hne : ∀ g, v.ownBlock = some g → some g ≠ ob) : w'.ownsRow B e size v n xs := by
  have hlt := fun g hg => (h.lt g hg).2
  obtain ⟨h1, h2⟩ := h
  refine ⟨h1, h2.imp id ?_⟩
  rintro ⟨g, cap, cur, rfl, h5, h6, h7⟩
  exact ⟨g, cap, cur, rfl, h5, (hg.block g (hlt g rfl) (hne g rfl)).trans h6, h7⟩
/-- Rows stay while the steps, in a block that holds none of their nodes, are appended to. -/
theorem OwnRfs.stepped {W w7 : World} {B B' g : Nat} {v s : Value} {L : List Nat} {xs : List Int} (h : OwnRfs s.ownBlock W B v L) (hs : OwnInts W B' s xs) (hg : W.grownBy w7 s.ownBlock) (hat : s.ownBlock = some g ∨ g = W.heap.size) : OwnRfs (some g) w7 B v L := by
  obtain ⟨cells, h1, h2, h3⟩ := h
  refine ⟨cells, own_tag h1 hs.1 (by decide) (fun k hk hne => hg.block k hk hne), h2, fun i hi => ?_⟩
  obtain ⟨u, e0, e1, ⟨e2, e4⟩, e3⟩ := h3 i hi
  refine ⟨u, e0, e1, ⟨own_grown e2 hg fun g2 hg2 he => e3 g2 hg2 he.symm, e4⟩, fun g2 hg2 he => ?_⟩
  have hlt := (e2.lt g2 hg2).2
  injection he with he
  subst he
  rcases hat with hat | hat
  · exact e3 _ hg2 hat
  · omega
theorem app_int_at {ops : Array Oper} {rest : List Oper} {o : Oper} {a : Act} {Q : Exit → Act → World → Prop} {w : World} (hgd : o.guard = none) (s x : Operand)
    (ho : o.op = .call { callee := .builtin .append, args := #[s, x], argTypes := #[27, 27] }) (B : Nat) (v : Value) (xs : List Int) (hs : a.eval s = v) (hown : OwnInts w B v xs)
    (ad : Addr) (y : Int) (hx : a.eval x = .slice (some ad) 1 1) (hc : w.cell? ad = some (.int .i64 y)) (hl : xs.length < 17592186044416) (hB : B ≤ w.heap.size)
    (h : ∀ g cap w', OwnInts w' B (.slice (some ⟨g, 0, none⟩) (xs.length + 1) cap) (xs ++ [y]) → w.grownBy w' v.ownBlock → (v.ownBlock = some g ∨ g = w.heap.size) → Below B w w' → wpList Tryz.prog ops Q rest (a.put o.dst (.slice (some ⟨g, 0, none⟩) (xs.length + 1) cap)) w') : wpList Tryz.prog ops Q (o :: rest) a w := by
  obtain ⟨i0, hi0, hz0, hz1, hz2⟩ := info_parts info_int
  refine wpList_append_lies w hgd s x 27 ho B 3 i0 _ 1 8 Tryz.underlying27 hi0 hz0 hz1 hz2 rfl (by decide) v xs.length _ hs hown.1 ad 1 1 [.int .i64 y] hx rfl ?_ ?_ (by decide) (by simp [maxLen]; omega) (by omega) hB w.heap.size rfl ?_
  · intro j u hj
    match j, hj with
    | 0, hj => simp at hj; subst hj; simpa [Addr.add] using hc
  · intro u hu; simp at hu; subst hu; rfl
  · intro g cap w' h2 h3 h4 _
    exact h g cap w' ⟨by simpa using h2, by simp; omega⟩ h3 h4 (grown_below h3 hown.1 hB)
theorem argsOk_pos {kind : Int} {n : Nat} (h : argsOk kind n = true) (h0 : kind ≠ 0) : 1 ≤ n := by
  unfold argsOk at h
  rw [if_neg h0] at h
  split at h
  · simp at h; omega
  · simp at h; omega
/-- What the reference's Run answers. -/
def RefRun (w' : World) (e : Ending) (r : Option (List Nat × List Nat)) : Prop :=
  match r with
  | some p => ∃ Z v1 v2 L, e = .returned (.tuple #[v1, v2, .int .i64 0]) ∧ OwnRfs Z w' 0 v1 L ∧ L.Perm p.1 ∧ OwnInts w' 0 v2 (ofN p.2)
  | none => e = .returned (.tuple #[.slice none 0 0, .slice none 0 0, .int .i64 4])
theorem refRun_none (w : World) : RefRun w (.returned (.tuple #[.slice none 0 0, .slice none 0 0, .int .i64 4])) none := rfl
theorem evW_zero : evW 0 = 0 := rfl
theorem nodesOf_zero : nodesOf 0 = [] := by
  unfold nodesOf
  rw [List.filter_eq_nil_iff]
  intro a _; simp
end Go.Proofs.YtngbjdaaogbjmaaGreat
