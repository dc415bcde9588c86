import Derived.Test.YtiplibgnfcdlkaaQZE7
import Derived.Test.YtiplibgnfcdlkaaQZG7
/-
  Plain: the sets of a list from an event on; the reference's add.
-/
namespace Go.Proofs.Ytiplibgnfcdlkaa
open Go.RowKit

/-- The sets of a list, from event v on. -/
def zft (ns : List Nat) (v t : Nat) : Bool := ns.any fun s => ztop s v == t
theorem zft_iff {ns : List Nat} {v t : Nat} : zft ns v t = true ↔ ∃ s ∈ ns, ztop s v = t := by
  unfold zft
  rw [List.any_eq_true]
  constructor
  · rintro ⟨s, h1, h2⟩; exact ⟨s, h1, beq_iff_eq.1 h2⟩
  · rintro ⟨s, h1, h2⟩; exact ⟨s, h1, beq_iff_eq.2 h2⟩
theorem zft_nil (v : Nat) : zft [] v = fun _ => false := rfl
theorem zft_zero (ns : List Nat) : zft ns 0 = zin ns := by
  funext t
  unfold zin
  rw [Bool.eq_iff_iff, zft_iff, decide_eq_true_iff]
  constructor
  · rintro ⟨s, h1, rfl⟩; rw [ztop_zero]; exact h1
  · intro h; exact ⟨t, h, ztop_zero t⟩
theorem zft_lo (ns : List Nat) (v : Nat) : zlo (zft ns v) v = zft (ns.filter fun s => !s.testBit v) (v + 1) := by
  funext t
  unfold zlo
  rw [Bool.eq_iff_iff, Bool.and_eq_true_iff, zft_iff, zft_iff]
  constructor
  · rintro ⟨⟨s, h1, rfl⟩, h2⟩
    rw [ztop_bit, decide_eq_true (Nat.le_refl v), Bool.true_and, Bool.not_eq_true'] at h2
    exact ⟨s, List.mem_filter.2 ⟨h1, by rw [h2]; rfl⟩, (ztop_off h2).symm⟩
  · rintro ⟨s, h1, rfl⟩
    obtain ⟨h2, h3⟩ := List.mem_filter.1 h1
    rw [Bool.not_eq_true'] at h3
    refine ⟨⟨s, h2, ztop_off h3⟩, ?_⟩
    rw [ztop_bit, decide_eq_false (by omega), Bool.false_and]; rfl
theorem ztop_flip {s v : Nat} (h : s.testBit v = true) : ztop s v = ztop s (v + 1) ^^^ 2 ^ v := Nat.eq_of_testBit_eq fun i => by
  rw [xor_bit, ztop_bit, ztop_bit]
  by_cases e : v = i
  · subst e
    rw [if_pos rfl, h, decide_eq_true (Nat.le_refl v), decide_eq_false (by omega)]; rfl
  · rw [if_neg e, show decide (v ≤ i) = decide (v + 1 ≤ i) from decide_eq_decide.2 (by omega)]
theorem zft_hi (ns : List Nat) (v : Nat) : zhi (zft ns v) v = zft (ns.filter fun s => s.testBit v) (v + 1) := by
  funext t
  unfold zhi
  rw [Bool.eq_iff_iff, Bool.and_eq_true_iff, zft_iff, zft_iff, Bool.not_eq_true']
  constructor
  · rintro ⟨⟨s, h1, h2⟩, h3⟩
    have h4 : s.testBit v = true := by
      have := congrArg (fun x => Nat.testBit x v) h2
      simp only [ztop_bit, xor_bit, decide_eq_true (Nat.le_refl v), Bool.true_and, if_true, h3] at this
      exact this
    refine ⟨s, List.mem_filter.2 ⟨h1, h4⟩, ?_⟩
    rw [ztop_flip h4] at h2
    rw [← flip_flip (ztop s (v + 1)) v, h2, flip_flip]
  · rintro ⟨s, h1, rfl⟩
    obtain ⟨h2, h3⟩ := List.mem_filter.1 h1
    refine ⟨⟨s, h2, ztop_flip h3⟩, ?_⟩
    rw [ztop_bit, decide_eq_false (by omega), Bool.false_and]
theorem zft_end {ns : List Nat} (h : ∀ n ∈ ns, n < 16777216) (h0 : ns ≠ []) : zft ns 24 0 = true := by
  obtain ⟨s, hs⟩ := List.exists_mem_of_ne_nil ns h0
  exact zft_iff.2 ⟨s, hs, ztop_end (h s hs)⟩
theorem filter_len (ns : List Nat) (v : Nat) : (ns.filter fun s => !s.testBit v).length + (ns.filter fun s => s.testBit v).length = ns.length := by
  induction ns with
  | nil => rfl
  | cons a ns ih =>
    rw [List.filter_cons, List.filter_cons, List.length_cons]
    cases a.testBit v <;> simp <;> omega
theorem zadd_flen : ∀ k, k ≤ 24 → ∀ (M : List ZNode) (ns : List Nat), (zadd k M (zft ns (24 - k))).1.length ≤ M.length + k * ns.length := by
  intro k
  induction k with
  | zero => intro _ M ns; rw [zadd]; exact Nat.le_add_right _ _
  | succ k ih =>
    intro hk M ns
    by_cases h0 : ns = []
    · subst h0
      rw [zft_nil, zadd_none]; exact Nat.le_add_right _ _
    · have e : 24 - (k + 1) = 23 - k := by omega
      have e1 : 23 - k + 1 = 24 - k := by omega
      rw [zadd]
      simp only [e, zft_lo, zft_hi, e1]
      have h1 := ih (by omega) M (ns.filter fun s => !s.testBit (23 - k))
      have h2 := ih (by omega) (zadd k M (zft (ns.filter fun s => !s.testBit (23 - k)) (24 - k))).1 (ns.filter fun s => s.testBit (23 - k))
      have h3 := filter_len ns (23 - k)
      have h4 := zput_len (zadd k (zadd k M (zft (ns.filter fun s => !s.testBit (23 - k)) (24 - k))).1 (zft (ns.filter fun s => s.testBit (23 - k)) (24 - k))).1 ⟨23 - k, (zadd k M (zft (ns.filter fun s => !s.testBit (23 - k)) (24 - k))).2, (zadd k (zadd k M (zft (ns.filter fun s => !s.testBit (23 - k)) (24 - k))).1 (zft (ns.filter fun s => s.testBit (23 - k)) (24 - k))).2⟩
      have h5 : 0 < ns.length := List.length_pos_iff.2 h0
      have h6 : (k + 1) * ns.length = k * (ns.filter fun s => !s.testBit (23 - k)).length + k * (ns.filter fun s => s.testBit (23 - k)).length + ns.length := by
        rw [Nat.add_mul, Nat.one_mul, ← Nat.mul_add, h3]
      omega
/-- The nodes in memory, the call's own. -/
def OwnDns (w : World) (v : Value) (M : List ZNode) : Prop := w.ownsRow 0 63 3 v M.length (M.flatMap znC)
theorem OwnDns.kept {w w' : World} {v : Value} {M : List ZNode} (h : OwnDns w v M) (hk : Kept w w') : OwnDns w' v M := own_kept h hk
theorem OwnDns.shape {w : World} {v : Value} {M : List ZNode} (h : OwnDns w v M) : ∃ a c, v = .slice a M.length c ∧ M.length ≤ c := by
  rcases h.2 with ⟨e1, e2⟩ | ⟨g, cap, cur, e1, _, _, h6, _⟩
  · exact ⟨none, 0, by rw [e1, e2], by omega⟩
  · exact ⟨_, cap, e1, h6⟩
theorem SFrm.store {v v' : Value} {W w : World} (h : SFrm v v' W w) {g : Nat} (hg : W.heap.size ≤ g) (i : Nat) (u : Value) : SFrm v v' W (w.setCell ⟨g, i, none⟩ u) :=
  ⟨h.os, h.tape, h.output, Nat.le_trans h.size (by simp [World.setCell]), fun k hk hn => (Below.heap_setCell w ⟨g, i, none⟩ u k (by show k ≠ g; omega)).trans (h.block k hk hn), fun k hk => (h.own k hk).imp id id⟩
/-- The state of add: W its start, w3 the world at its first call. -/
structure AddSt (W w3 w : World) (sv svk : Value) (M : List ZNode) : Prop where
  own : OwnDns w svk M
  frm : SFrm sv svk W w
  far : ∀ j, svk.ownBlock = some j → j < W.heap.size ∨ w3.heap.size ≤ j
  base : w3.heap.size ≤ w.heap.size
theorem AddSt.store {W w3 w : World} {sv svk : Value} {M : List ZNode} (h : AddSt W w3 w sv svk M) {g : Nat} (h1 : W.heap.size ≤ g) (h2 : g < w3.heap.size) (i : Nat) (u : Value) : AddSt W w3 (w.setCell ⟨g, i, none⟩ u) sv svk M :=
  ⟨own_block h.own fun k hk => Below.heap_setCell w ⟨g, i, none⟩ u k (by show k ≠ g; have := h.far k hk; omega), h.frm.store h1 i u, h.far, Nat.le_trans h.base (by simp [World.setCell])⟩
theorem AddSt.call {W w3 w w' : World} {sv svk sv' : Value} {M M' : List ZNode} (h : AddSt W w3 w sv svk M) (ho : OwnDns w' sv' M') (hf : SFrm svk sv' w w') : AddSt W w3 w' sv sv' M' :=
  ⟨ho, h.frm.trans hf, fun j hj => (hf.own j hj).elim (fun e => h.far j e) (fun e => .inr (Nat.le_trans h.base e)), Nat.le_trans h.base hf.size⟩
theorem AddSt.kept {W w3 w w' : World} {sv svk : Value} {M : List ZNode} (h : AddSt W w3 w sv svk M) (hk : Kept w w') : AddSt W w3 w' sv svk M := h.call (h.own.kept hk) (SFrm.kept hk _)
theorem AddSt.cell {W w3 w w' : World} {sv svk sv' : Value} {M : List ZNode} (h : AddSt W w3 w sv svk M) (hf : SFrm svk sv' w w') {b i : Nat} {x : Value} (h1 : W.heap.size ≤ b) (h2 : b < w3.heap.size) (hc : w.cell? ⟨b, i, none⟩ = some x) : w'.cell? ⟨b, i, none⟩ = some x :=
  hf.cell hc fun e => by have := h.far b e; omega
theorem AddSt.raw {W w3 w w' : World} {sv svk sv' : Value} {M : List ZNode} (h : AddSt W w3 w sv svk M) (hf : SFrm svk sv' w w') {b : Nat} (h1 : W.heap.size ≤ b) (h2 : b < w3.heap.size) : w'.heap[b]? = w.heap[b]? :=
  hf.block b (by have := h.base; omega) fun e => by have := h.far b e; omega
end Go.Proofs.Ytiplibgnfcdlkaa
