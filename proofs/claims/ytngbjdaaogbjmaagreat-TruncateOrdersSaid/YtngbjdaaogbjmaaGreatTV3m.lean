import Derived.Test.YtngbjdaaogbjmaaGreatTN2m
import Derived.Test.YtngbjdaaogbjmaaGreatShelf
import Derived.Lib.ItoaNum
import Derived.Deep.MidRow
import Derived.Deep.LoopGhost
/-
  Slices of rows of truncate. Walk: topdown.greatest.
-/
namespace Go.Proofs.YtngbjdaaogbjmaaGreat.Tr
open Go.RowKit

/-- A slice of rows that can be read. -/
def RwsAt (w : World) (v : Value) (L : List Nat) : Prop :=
  ∃ (a : Option Addr) (c : Nat), v = .slice a L.length c ∧ (L.length ≤ c ∧ (a = none → c = 0)) ∧ L.length ≤ 10000 ∧ (∀ c ∈ L, RowLt 152 c) ∧
    ∀ i (h : i < L.length), ∃ b o, a = some ⟨b, o, none⟩ ∧ w.rangeAt b (o + i * 3) (rcells L[i])
theorem range_kept {w w' : World} {b o : Nat} {cs : List Value} (h : w.rangeAt b o cs) (hk : Kept w w') : w'.rangeAt b o cs := fun j v hj => hk.cell (h j v hj)
theorem RwsAt.kept {w w' : World} {v : Value} {L : List Nat} (h : RwsAt w v L) (hk : Kept w w') : RwsAt w' v L := by
  obtain ⟨a, c, h1, h2, h3, h4, h5⟩ := h
  exact ⟨a, c, h1, h2, h3, h4, fun i hi => let ⟨b, o, h6, h7⟩ := h5 i hi; ⟨b, o, h6, range_kept h7 hk⟩⟩
/-- Rows of the call's own. -/
def OwnRws (w : World) (B : Nat) (v : Value) (L : List Nat) : Prop :=
  w.ownsRow B 109 3 v L.length (L.flatMap rcells) ∧ L.length ≤ 10000 ∧ ∀ c ∈ L, RowLt 152 c
theorem OwnRws.kept {w w' : World} {B : Nat} {v : Value} {L : List Nat} (h : OwnRws w B v L) (hk : Kept w w') : OwnRws w' B v L := ⟨own_kept h.1 hk, h.2⟩
theorem OwnRws.mono {w : World} {B B' : Nat} {v : Value} {L : List Nat} (h : OwnRws w B v L) (hb : B' ≤ B) : OwnRws w B' v L := ⟨own_mono h.1 hb, h.2⟩
theorem OwnRws.nil (w : World) (B : Nat) : OwnRws w B (.slice none 0 0) [] := ⟨World.ownsRow_nil _ _ _ _, by simp, by simp⟩
theorem len_flat (L : List Nat) : (L.flatMap rcells).length = L.length * 3 := by
  induction L with
  | nil => rfl
  | cons c L ih => simp [rcells, ih]; omega
theorem flat_get (L : List Nat) : ∀ i (h : i < L.length) j, j < 3 → (L.flatMap rcells)[i * 3 + j]? = (rcells L[i])[j]? := by
  induction L with
  | nil => intro i h; simp at h
  | cons c L ih =>
    intro i h j hj
    rw [List.flatMap_cons]
    cases i with
    | zero => rw [List.getElem?_append_left (by simp [rcells]; omega)]; simp
    | succ i =>
      rw [List.getElem?_append_right (by simp [rcells]; omega), show (rcells c).length = 3 from rfl, show (i + 1) * 3 + j - 3 = i * 3 + j by omega]
      exact ih i (by simpa using h) j hj
theorem OwnRws.at {w : World} {B : Nat} {v : Value} {L : List Nat} (h : OwnRws w B v L) : RwsAt w v L := by
  obtain ⟨⟨h1, h2⟩, h3, h4⟩ := h
  rcases h2 with ⟨rfl, h6⟩ | ⟨g, cap, cur, rfl, h6, h7, h8, h9, h10, h11⟩
  · have : L = [] := List.eq_nil_of_length_eq_zero h6
    subst this
    exact ⟨none, 0, rfl, ⟨by simp, fun _ => rfl⟩, by simp, by simp, fun i h => by simp at h⟩
  · refine ⟨some ⟨g, 0, none⟩, cap, rfl, ⟨h8, fun h => by cases h⟩, h3, h4, fun i hi => ⟨g, 0, rfl, fun j u hj => ?_⟩⟩
    have hj3 : j < 3 := by
      have := (List.getElem?_eq_some_iff.1 hj).1
      simpa [rcells] using this
    have e1 : (cur.toList.take (L.length * 3))[i * 3 + j]? = (L.flatMap rcells)[i * 3 + j]? := by rw [h11]
    rw [List.getElem?_take_of_lt (by omega), flat_get L i hi j hj3, hj] at e1
    simp only [World.cell?, h7, Nat.zero_add]
    simpa using e1
theorem RwsAt.shape {w : World} {v : Value} {L : List Nat} (h : RwsAt w v L) : ∃ a c, v = .slice a L.length c := by
  obtain ⟨a, c, h, _⟩ := h; exact ⟨a, c, h⟩
end Go.Proofs.YtngbjdaaogbjmaaGreat.Tr
