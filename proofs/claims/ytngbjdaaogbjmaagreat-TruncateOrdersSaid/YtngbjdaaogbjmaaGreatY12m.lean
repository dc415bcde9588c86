import Derived.Test.YtngbjdaaogbjmaaGreatY5m
/-
  Walks: the cutter of truncate: what settle's second loop carries.
-/
namespace Go.Proofs.YtngbjdaaogbjmaaGreat.Tr
open Go.RowKit
variable {y0 y1 y2 y3 y5 y6 : Value}

/-- The cutter, by its rows. -/
def CutR (y0 y1 y2 y3 y5 y6 : Value) (w : World) (gl B : Nat) (v : Value) (L : List Nat) : Prop := RowAt w gl 107 [y0, y1, y2, y3, v, y5, y6] ∧ OwnRws w B v L
theorem settle_step {W w5 : World} {gl B n cap gg c : Nat} {L : List Nat} {v : Value} {O : Obj} (hr : RowAt W gl 107 [y0, y1, y2, y3, v, y5, y6]) (hv : OwnRws W B v L) (hB : B ≤ W.heap.size) (hc : RowLt 152 c) (hl : L.length ≤ 4097) (hn : n = L.length)
    (hown : w5.ownsRow B 109 3 (.slice (some ⟨gg, 0, none⟩) (n + 1) cap) (n + 1) (L.flatMap rcells ++ rcells c)) (hg : ((W.alloc O).drew).grownBy w5 v.ownBlock) (hat : v.ownBlock = some gg ∨ gg = W.heap.size + 1) :
    CutR y0 y1 y2 y3 y5 y6 (w5.setCell ⟨gl, 4, none⟩ (.slice (some ⟨gg, 0, none⟩) (n + 1) cap)) gl B (.slice (some ⟨gg, 0, none⟩) (n + 1) cap) (L ++ [c]) ∧ Frm gl v (.slice (some ⟨gg, 0, none⟩) (n + 1) cap) W (w5.setCell ⟨gl, 4, none⟩ (.slice (some ⟨gg, 0, none⟩) (n + 1) cap)) := by
  have hgl := hr.lt
  have k1 : Kept W (W.alloc O).drew := ((Kept.refl W).alloc O).drew
  have hb : w5.heap[gl]? = W.heap[gl]? := (hg.block gl (by simp; omega) (list_apart hv hr)).trans (k1.block gl hgl)
  have hr5 := hr.same hb
  have hv5 : OwnRws w5 B (.slice (some ⟨gg, 0, none⟩) (n + 1) cap) (L ++ [c]) := by
    refine ⟨by rw [List.flatMap_append, List.flatMap_cons, List.flatMap_nil, List.append_nil, List.length_append, List.length_singleton, ← hn]; exact hown, by simp; omega, fun x hx => ?_⟩
    rcases List.mem_append.1 hx with hx | hx
    · exact hv.2.2 x hx
    · simp at hx; subst hx; exact hc
  have hne5 := list_apart hv5 hr5
  refine ⟨⟨?_, hv5.store_other hne5 4 _⟩, ?_⟩
  · have := hr5.store 4 (.slice (some ⟨gg, 0, none⟩) (n + 1) cap)
    simpa using this
  · have h2 : Below B (W.alloc O).drew w5 := grown_below hg (hv.kept k1).1 (by simp; omega)
    have h3 : Below 0 W (w5.setCell ⟨gl, 4, none⟩ (.slice (some ⟨gg, 0, none⟩) (n + 1) cap)) := Below.setCell ((k1.mono (Nat.zero_le _)).trans (h2.mono (Nat.zero_le _))) (Nat.zero_le _) _
    refine ⟨h3.os, h3.tape, h3.output, h3.size, fun k hk e1 e2 => ?_, ?_⟩
    · exact (Below.heap_setCell w5 ⟨gl, 4, none⟩ _ k e1).trans ((hg.block k (by simp; omega) e2).trans (k1.block k hk))
    · rcases hat with h | h
      · exact .inl h.symm
      · refine .inr fun g hg' => ?_
        have : gg = g := by simpa [Value.ownBlock] using hg'
        omega
theorem heap_new1d (w : World) (O : Obj) : ((w.alloc O).drew).heap[w.heap.size]? = some O :=
  (Below.block (Kept.refl (w.alloc O)).drew w.heap.size (by simp)).trans (heap_alloc_new w O)
theorem own_frm {w w' : World} {gl B size n : Nat} {e : TypeId} {v u' : Value} {xs : List Value} (h : w.ownsRow B e size v n xs) (hg : gl < B) (hf : Frm gl (.slice none 0 0) u' w w') : w'.ownsRow B e size v n xs := by
  obtain ⟨h1, h2⟩ := h
  refine ⟨h1, h2.imp id ?_⟩
  rintro ⟨b, cap, cur, rfl, h5, h6, h7⟩
  exact ⟨b, cap, cur, rfl, h5, (hf.block b (heap_lt h6) (by omega) (by simp [Value.ownBlock])).trans h6, h7⟩
theorem rws_frm {w w' : World} {gl B : Nat} {v u' : Value} {L : List Nat} (h : OwnRws w B v L) (hg : gl < B) (hf : Frm gl (.slice none 0 0) u' w w') : OwnRws w' B v L := ⟨own_frm h.1 hg hf, h.2⟩
theorem ints_frm {w w' : World} {gl B : Nat} {v u' : Value} {L : List Int} (h : OwnInts w B v L) (hg : gl < B) (hf : Frm gl (.slice none 0 0) u' w w') : OwnInts w' B v L := ⟨own_frm h.1 hg hf, h.2⟩
theorem frm_store {w w' : World} {gl : Nat} (h : Kept w w') (i : Nat) (u : Value) : Frm gl (.slice none 0 0) (.slice none 0 0) w (w'.setCell ⟨gl, i, none⟩ u) := by
  have h3 : Below 0 w (w'.setCell ⟨gl, i, none⟩ u) := Below.setCell (h.mono (Nat.zero_le _)) (Nat.zero_le _) _
  exact ⟨h3.os, h3.tape, h3.output, h3.size, fun k hk e1 _ => (Below.heap_setCell w' ⟨gl, i, none⟩ u k e1).trans (h.block k hk), .inl rfl⟩
theorem sort_ints {w w' : World} {B : Nat} {v u : Value} {L : List Int} (h : OwnInts w B v L) {L1 : List Nat} {B' : Nat} (h' : OwnRws w B' u L1) (hg : ∀ k, k < w.heap.size → some k ≠ u.ownBlock → w'.heap[k]? = w.heap[k]?) : OwnInts w' B v L :=
  ⟨own_tag h.1 h'.1 (by decide) hg, h.2⟩
end Go.Proofs.YtngbjdaaogbjmaaGreat.Tr
