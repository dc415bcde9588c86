import Derived.Test.YtngbjdaaogbjmaaGreatX8m
import Derived.Test.YtngbjdaaogbjmaaGreatR3m
import Derived.Test.YtngbjdaaogbjmaaGreatY14m
import Derived.Test.YtngbjdaaogbjmaaGreatY11m
import Derived.Test.YtngbjdaaogbjmaaGreatY17m
import Derived.Test.YtngbjdaaogbjmaaGreatX6m
import Derived.Test.YtngbjdaaogbjmaaGreatR7m
/-
  The reference's rows while a list is parted: what stays. Plain: where the reference's search with a limit stands.
-/
namespace Go.Proofs.YtngbjdaaogbjmaaGreat
open Go.RowKit
variable {Z : Option Nat}

/-- append of one row; and what else stays. -/
theorem app_rf2 {ops : Array Oper} {rest : List Oper} {o : Oper} {a : Act} {Q : Exit → Act → World → Prop} {w : World} (hgd : o.guard = none) (s x : Operand)
    (ho : o.op = .call { callee := .builtin .append, args := #[s, x], argTypes := #[119, 119] }) (B : Nat) (v : Value) (L : List Nat) (hs : a.eval s = v) (hown : OwnRfs Z w B v L)
    (g r : Nat) (u : Value) (hx : a.eval x = .slice (some ⟨g, 0, none⟩) 1 1) (hc : w.rangeAt g 0 [.int .i64 (evW r), u]) (hu : NdsAt Z w u r) (hr : RowLt 152 r) (hl : L.length < 20000) (hB : B ≤ w.heap.size)
    (h : ∀ v' w', OwnRfs Z w' B v' (L ++ [r]) → w.grownBy w' v.ownBlock → Below B w w' → wpList Tryz.prog ops Q rest (a.put o.dst v') w') : wpList Tryz.prog ops Q (o :: rest) a w := by
  obtain ⟨i0, hi0, hz0, hz1, hz2⟩ := info_parts info_rrow
  obtain ⟨cells, hown1, ⟨hkl, hlt⟩, hcell⟩ := hown
  obtain ⟨sa, sc, rfl⟩ := hu.shape
  refine wpList_append_own _ hgd s x 119 ho B 118 i0 _ 2 32 Tryz.underlying119 hi0 hz0 hz1 hz2 rfl (by decide) v L.length cells hs hown1 ⟨g, 0, none⟩ 1 1 [.int .i64 (evW r), .slice sa (nodesOf r).length sc] hx rfl ?_ ?_ (by unfold maxLen; omega) (by omega) hB ?_
  · intro j u hj
    have := hc j u hj
    rw [addr_add]; exact this
  · intro u hu
    simp at hu
    rcases hu with rfl | rfl <;> rfl
  · intro v' w' h3 h4 _
    have hg : ∀ k, k < w.heap.size → some k ≠ v.ownBlock → w'.heap[k]? = w.heap[k]? := fun k hk hne => h4.block k hk hne
    refine h v' w' ⟨cells ++ [.int .i64 (evW r), .slice sa (nodesOf r).length sc], by simpa using h3, ⟨by simp; omega, fun c hc => ?_⟩, ?_⟩ h4 (grown_below h4 hown1 hB)
    · rcases List.mem_append.1 hc with hc | hc
      · exact hlt c hc
      · simp at hc; subst hc; exact hr
    · intro i hi
      simp at hi
      have hcl : cells.length = L.length * 2 := hown1.1
      by_cases hik : i < L.length
      · obtain ⟨u, e0, e1, e2⟩ := hcell i hik
        rw [List.getElem_append_left hik]
        refine ⟨u, ?_, ?_, ⟨⟨own_tag e2.1.1 hown1 (by decide) hg, e2.1.2⟩, e2.2⟩⟩
        · rw [List.getElem?_append_left (by omega), e0]
        · rw [List.getElem?_append_left (by omega), e1]
      · have e : i = L.length := by omega
        subst e
        rw [List.getElem_append_right (Nat.le_refl _)]
        simp only [Nat.sub_self, List.getElem_cons_zero]
        refine ⟨.slice sa (nodesOf r).length sc, ?_, ?_, ⟨⟨own_tag hu.1.1 hown1 (by decide) hg, hu.1.2⟩, hu.2⟩⟩
        · rw [List.getElem?_append_right (by omega), hcl]; simp
        · rw [List.getElem?_append_right (by omega), hcl]; simp
/-- Rows stay while another slice of rows is appended to. -/
theorem OwnRfs.grownR {W w7 : World} {B B' n : Nat} {v s : Value} {L : List Nat} {cells : List Value} (h : OwnRfs Z W B v L) (hs : W.ownsRow B' 118 2 s n cells) (hg : W.grownBy w7 s.ownBlock) (hne : ∀ g, v.ownBlock = some g → some g ≠ s.ownBlock) : OwnRfs Z w7 B v L := by
  obtain ⟨cs, h1, h2, h3⟩ := h
  refine ⟨cs, own_grown h1 hg hne, h2, fun i hi => ?_⟩
  obtain ⟨u, e0, e1, e2⟩ := h3 i hi
  exact ⟨u, e0, e1, ⟨own_tag e2.1.1 hs (by decide) (fun k hk hn => hg.block k hk hn), e2.1.2⟩, e2.2⟩
/-- Ints stay while rows are appended to. -/
theorem OwnInts.grownR {W w7 : World} {B B' n : Nat} {v s : Value} {xs : List Int} {cells : List Value} (h : OwnInts W B v xs) (hs : W.ownsRow B' 118 2 s n cells) (hg : W.grownBy w7 s.ownBlock) : OwnInts w7 B v xs :=
  ⟨own_tag h.1 hs (by decide) (fun k hk hn => hg.block k hk hn), h.2⟩
/-- Beside a slice that is new, rows hold none of its memory. -/
theorem OwnRfs.fresh {w w' : World} {B : Nat} {v s : Value} {L : List Nat} (h : OwnRfs Z w B v L) (hk : Kept w w') (hs : ∀ g, s.ownBlock = some g → w.heap.size ≤ g) : OwnRfs s.ownBlock w' B v L := by
  obtain ⟨cells, h1, h2, h3⟩ := h
  refine ⟨cells, own_kept h1 hk, h2, fun i hi => ?_⟩
  obtain ⟨u, e0, e1, e2⟩ := h3 i hi
  exact ⟨u, e0, e1, OwnInts.kept e2.1 hk, fun g hg he => by have h4 := (e2.1.1.lt g hg).2; have h5 := hs g he; omega⟩
/-- Where the reference's search with a limit stands. -/
def RefAt (V T : Nat) (f : Fm) (P : Nat → Bool) (L F : List Nat) (j : Int) (kx : Nat) : Prop :=
  (j = -1 ∧ L = [cond V (T : Int)] ∧ F = [] ∧ f.nodes.length + 1 ≤ kx) ∨ ∃ m i : Nat, j = (i : Int) ∧ m ≤ kx ∧ TStand V T f P L F m ∧ (∃ c ∈ L, c.testBit (24 + i) = true) ∧ ∀ c ∈ L, ∀ j, c.testBit (24 + j) = true → j ≤ i
theorem sort_kept {R L : List Nat} (hg : Good R) (hm : ∀ r ∈ R, r < 16777216) (hp : L.Perm R) : sortK (L.map evW) = R := by
  have e : R.map evW = R := by
    have := List.map_congr_left (l := R) (f := evW) (g := id) fun r hr => evW_of_lt (hm r hr)
    simpa using this
  have hR : R.Pairwise ltK := by rw [← hg.1]; exact pair_minK R
  refine (sortK_unique (L.map evW) R hR fun x => ?_).symm
  rw [(hp.map evW).mem_iff, e]
/-- The limit's value, and what it decides. -/
def BeyAt (w : World) (lim : Value) (bp : Bool) (P : Nat → Bool) : Prop :=
  ∀ e W, Kept w W → Mk e → Calls Tryz.prog 85 #[lim, .bool bp, .int .i64 (e : Nat)] W fun e' w' => e' = .returned (.bool (P e)) ∧ Kept W w'
theorem nodes_one (V T : Nat) (hV : V ≤ 24) (hT : T < V + 128) : (T < V → nodesOf (cond V (T : Int)) = [] ∧ evW (cond V (T : Int)) = 2 ^ T) ∧ (¬ T < V → nodesOf (cond V (T : Int)) = [T - V] ∧ evW (cond V (T : Int)) = 0) := by
  have e0 : evW 0 = 0 := rfl
  refine ⟨fun h => ?_, fun h => ?_⟩
  · have hc : cond V (T : Int) = 0 ||| 2 ^ T := by unfold cond; rw [if_pos (by omega)]; simp
    rw [hc, nodesOf_ev 0 T (by omega), nodesOf_zero]
    refine ⟨rfl, ?_⟩
    rw [Nat.zero_or]
    exact evW_of_lt (Nat.lt_of_lt_of_le (Nat.pow_lt_pow_right (by omega) (by omega : T < 24)) (by decide : 2 ^ 24 ≤ 16777216))
  · have hc : cond V (T : Int) = 0 ||| 2 ^ (24 + (T - V)) := by unfold cond; rw [if_neg (by omega), Nat.zero_or, show ((T : Int) - (V : Int)).toNat = T - V by omega]
    rw [hc, nodesOf_node 0 (T - V) (by omega), nodesOf_zero, evW_or, e0]
    exact ⟨rfl, rfl⟩
end Go.Proofs.YtngbjdaaogbjmaaGreat
