/-
  What the walks say of memory: slices of ints and of slices, and how such readings stay. Plain lemmas on worlds.
-/
import Derived.Test.YtcgfjacidjebaaaRows
import Derived.WalkKit
import Derived.WalkSpells
import Derived.WalkLawsBesides
import Derived.Deep.QuietTactic
import Derived.BigQuiet
import Derived.Lib.Hide
import Derived.Shelf.Abstract
import Derived.Deep.RegionWith
namespace Go.Proofs.Ytcgfjacidjebaaa
open Go.RowKit

/-- No memory that lay there has changed. -/
abbrev Kept (w w' : World) : Prop := Below w.heap.size w w'

theorem Kept.refl (w : World) : Kept w w := Below.refl _ _
theorem Kept.trans {a b c : World} (h : Kept a b) (k : Kept b c) : Kept a c := Below.trans h (Below.mono k h.size)
theorem Kept.drew {a w : World} (h : Kept a w) : Kept a w.drew := Below.drew h
theorem Kept.alloc {a w : World} (h : Kept a w) (o : Obj) : Kept a (w.alloc o) := Below.alloc h h.size o
theorem Kept.cell {w w' : World} (h : Kept w w') {p : Addr} {v : Value} (hc : w.cell? p = some v) : w'.cell? p = some v :=
  (Below.cell h (World.block_lt_of_cell? w _ hc)).trans hc
theorem Kept.drewN {a w : World} (h : Kept a w) (n : Nat) : Kept a (w.drewN n) := ⟨h.os, h.tape, h.output, h.size, h.block⟩

theorem Kept.app {a b c : World} (h : Kept a b) (k : Below a.heap.size b c) : Kept a c := Below.trans h k

/-- A slice of ints that can be read. -/
def IntsAt (w : World) (v : Value) (xs : List Int) : Prop :=
  ∃ (a : Option Addr) (c : Nat), v = .slice a xs.length c ∧ (xs.length ≤ c ∧ (a = none → c = 0)) ∧ xs.length ≤ 140737488355328 ∧
    ∀ i (h : i < xs.length), ∃ b o, a = some ⟨b, o, none⟩ ∧ w.cell? ⟨b, o + i, none⟩ = some (.int .i64 xs[i])

theorem IntsAt.kept {w w' : World} {v : Value} {xs : List Int} (h : IntsAt w v xs) (hb : Kept w w') : IntsAt w' v xs := by
  obtain ⟨a, c, h1, h0, h2, h3⟩ := h
  refine ⟨a, c, h1, h0, h2, fun i hi => ?_⟩
  obtain ⟨b, o, h4, h5⟩ := h3 i hi
  exact ⟨b, o, h4, hb.cell h5⟩

theorem IntsAt.shape {w : World} {v : Value} {xs : List Int} (h : IntsAt w v xs) : ∃ a n c, v = .slice a n c := by
  obtain ⟨a, c, h1, _⟩ := h
  exact ⟨a, _, c, h1⟩

theorem IntsAt.nil (w : World) : IntsAt w (.slice none 0 0) [] := ⟨none, 0, rfl, ⟨by simp, fun _ => rfl⟩, by simp, fun i h => by simp at h⟩

/-- A slice whose cells hold values of which R speaks, each of one cell. -/
def RowsAt {α : Type} (R : World → Value → α → Prop) (w : World) (v : Value) (xs : List α) : Prop :=
  ∃ (a : Option Addr) (c : Nat), v = .slice a xs.length c ∧ (xs.length ≤ c ∧ (a = none → c = 0)) ∧ xs.length ≤ 140737488355328 ∧
    ∀ i (h : i < xs.length), ∃ b o u, a = some ⟨b, o, none⟩ ∧ w.cell? ⟨b, o + i, none⟩ = some u ∧ R w u xs[i]

theorem RowsAt.kept {α : Type} {R : World → Value → α → Prop} (hR : ∀ w w' u x, R w u x → Kept w w' → R w' u x)
    {w w' : World} {v : Value} {xs : List α} (h : RowsAt R w v xs) (hb : Kept w w') : RowsAt R w' v xs := by
  obtain ⟨a, c, h1, h0, h2, h3⟩ := h
  refine ⟨a, c, h1, h0, h2, fun i hi => ?_⟩
  obtain ⟨b, o, u, h4, h5, h6⟩ := h3 i hi
  exact ⟨b, o, u, h4, hb.cell h5, hR _ _ _ _ h6 hb⟩

/-- An error by its number; 0: none. -/
def errV (c : Nat) : Value := if c = 0 then .nilIface else .iface 45 (.int .i64 c)
theorem errV_zero : errV 0 = .nilIface := rfl
theorem errV_pos {c : Nat} (h : c ≠ 0) : errV c = .iface 45 (.int .i64 c) := by simp [errV, h]

/-- An int slice of the call's own. -/
def OwnInts (w : World) (B : Nat) (v : Value) (xs : List Int) : Prop :=
  w.ownsRow B 3 1 v xs.length (xs.map (Value.int .i64)) ∧ xs.length ≤ 140737488355328

theorem OwnInts.ints {w : World} {B : Nat} {v : Value} {xs : List Int} (h : OwnInts w B v xs) : IntsAt w v xs := by
  obtain ⟨⟨h1, h2⟩, h3⟩ := h
  rcases h2 with ⟨rfl, h4⟩ | ⟨g, cap, cur, rfl, h5, h6, h7, h8, h9, h10⟩
  · have : xs = [] := List.eq_nil_of_length_eq_zero h4
    subst this
    exact IntsAt.nil w
  · refine ⟨_, cap, rfl, ⟨h7, fun h => by cases h⟩, h3, fun i hi => ⟨g, 0, rfl, ?_⟩⟩
    have e1 : (cur.toList.take (xs.length * 1))[i]? = (xs.map (Value.int .i64))[i]? := by rw [h10]
    rw [List.getElem?_take_of_lt (by omega)] at e1
    simp only [World.cell?, h6, Nat.zero_add]
    simpa [hi] using e1

theorem own_kept {w w' : World} {B : Nat} {e : TypeId} {size : Nat} {v : Value} {n : Nat} {xs : List Value} (h : w.ownsRow B e size v n xs) (hb : Kept w w') : w'.ownsRow B e size v n xs := by
  obtain ⟨h1, h2⟩ := h
  refine ⟨h1, h2.imp id ?_⟩
  rintro ⟨g, cap, cur, h3, h4, h5, h6⟩
  have hg : g < w.heap.size := by
    rcases Nat.lt_or_ge g w.heap.size with h | h
    · exact h
    · simp [Array.getElem?_eq_none h] at h5
  exact ⟨g, cap, cur, h3, h4, (hb.block g hg).trans h5, h6⟩
theorem OwnInts.kept {w w' : World} {B : Nat} {v : Value} {xs : List Int} (h : OwnInts w B v xs) (hb : Kept w w') : OwnInts w' B v xs := ⟨own_kept h.1 hb, h.2⟩
theorem OwnInts.nil (w : World) (B : Nat) : OwnInts w B (.slice none 0 0) [] := ⟨World.ownsRow_nil _ _ _ _, by simp⟩
theorem own_mono {w : World} {B B' : Nat} {e : TypeId} {size : Nat} {v : Value} {n : Nat} {xs : List Value} (h : w.ownsRow B e size v n xs) (hb : B' ≤ B) : w.ownsRow B' e size v n xs := by
  obtain ⟨h1, h2⟩ := h
  refine ⟨h1, h2.imp id ?_⟩
  rintro ⟨g, cap, cur, h3, h4, h5⟩
  exact ⟨g, cap, cur, h3, by omega, h5⟩
theorem OwnInts.mono {w : World} {B B' : Nat} {v : Value} {xs : List Int} (h : OwnInts w B v xs) (hb : B' ≤ B) : OwnInts w B' v xs := ⟨own_mono h.1 hb, h.2⟩

/-- What an append to a row of the call's own leaves unchanged. -/
theorem grown_below {B : Nat} {w w' : World} {v : Value} {e : TypeId} {size n : Nat} {xs : List Value} (hg : w.grownBy w' v.ownBlock) (ho : w.ownsRow B e size v n xs) (hB : B ≤ w.heap.size) : Below B w w' :=
  Below.grown (Below.refl _ _) hg hB fun k hk => (ho.lt k hk).1

end Go.Proofs.Ytcgfjacidjebaaa
