import Derived.Test.YtngbjdaaogbjmaaRows
import Derived.Sort.LotD2
import Derived.Sort.LotA
import Derived.Test.YtngbjdaaogbjmaaK2
import Derived.Shelf.SlSortCmp.PdqK
import Derived.Test.YtngbjdaaogbjmaaProg
import Derived.Lib.Hide
import Derived.Deep.DeepCutAuto
import Derived.Test.YtngbjdaaogbjmaaShelf
import Derived.Lib.ItoaNum
import Derived.Deep.MidRow
import Derived.Deep.LoopGhost
import Derived.Test.YtngbjdaaogbjmaaK1
import Derived.Deep.AppendLies
import Derived.Deep.RegionLaw
import Derived.Deep.RegionHeld3
import Derived.StillTailTactics
import Derived.WalkSpells
import Derived.ProofKit
import Derived.OpenShut
import Derived.SizedLaws
import Derived.Lib.SmallJoins
import Derived.Deep.Slices
import Derived.Deep.Fields
import Derived.Deep.Strs
import Derived.Carry
/-
  Plain: the stable merge of slices.SortStableFunc on arrays: what swapRange, rotate and symMerge lay; that a merge of sorted parts is sorted.
-/
namespace Go.Proofs.Ytngbjdaaogbjmaa
open Go.Sort

section
variable {α : Type}
def swF (a b n : Nat) (f : Nat → α) (x : Nat) : α := if a ≤ x ∧ x < a + n then f (x + (b - a)) else if b ≤ x ∧ x < b + n then f (x - (b - a)) else f x
def rotF (a m b : Nat) (f : Nat → α) (x : Nat) : α := if a ≤ x ∧ x < a + (b - m) then f (x + (m - a)) else if a + (b - m) ≤ x ∧ x < b then f (x - (b - m)) else f x
theorem swF_zero (a b : Nat) (f : Nat → α) (x : Nat) : swF a b 0 f x = f x := by
  unfold swF; rw [if_neg (by omega), if_neg (by omega)]
theorem swF_step (a b n : Nat) (f : Nat → α) (h : a + n < b) (x : Nat) :
    (if x = b + n then swF a b n f (a + n) else if x = a + n then swF a b n f (b + n) else swF a b n f x) = swF a b (n + 1) f x := by
  unfold swF
  by_cases h1 : x = b + n
  · subst h1
    rw [if_pos rfl, if_neg (by omega), if_neg (by omega), if_neg (by omega), if_pos (by omega)]
    congr 1; omega
  · rw [if_neg h1]
    by_cases h2 : x = a + n
    · subst h2
      rw [if_pos rfl, if_neg (by omega), if_neg (by omega), if_pos (by omega)]
      congr 1; omega
    · rw [if_neg h2]
      by_cases h3 : a ≤ x ∧ x < a + n
      · rw [if_pos h3, if_pos (by omega)]
      · rw [if_neg h3]
        by_cases h4 : b ≤ x ∧ x < b + n
        · rw [if_pos h4, if_neg (by omega), if_pos (by omega)]
        · rw [if_neg h4, if_neg (by omega), if_neg (by omega)]
theorem rot_gt (m i j : Nat) (hi : i ≤ m) (hj : j < i) (f : Nat → α) (x : Nat) : rotF (m - (i - j)) m (m + j) (swF (m - i) m j f) x = rotF (m - i) m (m + j) f x := by
  unfold rotF swF
  repeat' split
  all_goals first | (exfalso; omega) | rfl | (congr 1 <;> omega)
theorem rot_lt (m i j : Nat) (hi : i ≤ m) (hj : i < j) (f : Nat → α) (x : Nat) : rotF (m - i) m (m + (j - i)) (swF (m - i) (m + j - i) i f) x = rotF (m - i) m (m + j) f x := by
  unfold rotF swF
  repeat' split
  all_goals first | (exfalso; omega) | rfl | (congr 1 <;> omega)
theorem rot_eq (m i : Nat) (hi : i ≤ m) (f : Nat → α) (x : Nat) : swF (m - i) m i f x = rotF (m - i) m (m + i) f x := by
  unfold rotF swF
  repeat' split
  all_goals first | (exfalso; omega) | rfl | (congr 1 <;> omega)
theorem rot_up (a k : Nat) (h : a ≤ k) (f : Nat → α) (x : Nat) :
    (if x = k + 1 then rotF a (a + 1) (k + 1) f k else if x = k then rotF a (a + 1) (k + 1) f (k + 1) else rotF a (a + 1) (k + 1) f x) = rotF a (a + 1) (k + 2) f x := by
  unfold rotF
  repeat' split
  all_goals first | (exfalso; omega) | rfl | (congr 1 <;> omega)
theorem rot_down (k m : Nat) (h : k + 1 ≤ m) (f : Nat → α) (x : Nat) :
    (if x = k then rotF (k + 1) m (m + 1) f (k + 1) else if x = k + 1 then rotF (k + 1) m (m + 1) f k else rotF (k + 1) m (m + 1) f x) = rotF k m (m + 1) f x := by
  unfold rotF
  repeat' split
  all_goals first | (exfalso; omega) | rfl | (congr 1 <;> omega)
theorem rot_left (a b : Nat) (f : Nat → α) (x : Nat) : rotF a a b f x = f x := by
  unfold rotF
  repeat' split
  all_goals first | (exfalso; omega) | rfl | (congr 1 <;> omega)
theorem rot_right (a b : Nat) (f : Nat → α) (x : Nat) : rotF a b b f x = f x := by
  unfold rotF
  repeat' split
  all_goals first | (exfalso; omega) | rfl | (congr 1 <;> omega)
end
section
variable {α : Type} [Inhabited α] {lt : α → α → Bool}
def atA (d : Array α) (x : Nat) : α := d[x]!
/-- d' is d with the blocks [a, m) and [m, b) in the other order. -/
def Rot (a m b : Nat) (d d' : Array α) : Prop := PermIn a b d d' ∧ ∀ x, d'[x]! = rotF a m b (atA d) x
def Swd (a b n : Nat) (d d' : Array α) : Prop := PermIn a (b + n) d d' ∧ ∀ x, d'[x]! = swF a b n (atA d) x
theorem Swd.start (a b : Nat) (d : Array α) : Swd a b 0 d d := ⟨permIn_refl _ _ _, fun x => (swF_zero a b (atA d) x).symm⟩
theorem Swd.step {a b n : Nat} {d d' : Array α} (h : Swd a b n d d') (h1 : a + n < b) (h2 : b + n < d.size) : Swd a b (n + 1) d (swp d' (a + n) (b + n)) := by
  have hs : d'.size = d.size := h.1.1
  refine ⟨permIn_trans _ _ _ _ _ (permIn_mono _ _ _ _ _ _ (Nat.le_refl _) (by omega) (by omega) h.1) (swp_permIn _ _ _ _ _ (by omega) (by omega) (by omega) (by omega) (by omega)), fun x => ?_⟩
  rw [Go.Sort.swp_get d' (by omega) (by omega), ← swF_step a b n (atA d) h1 x, h.2, h.2, h.2]
/-- rotate's loop: what is still to be turned. -/
def RotTo (a m b : Nat) (d : Array α) (i j : Nat) (dk : Array α) : Prop := PermIn a b d dk ∧ (∀ x, rotF (m - i) m (m + j) (atA dk) x = rotF a m b (atA d) x) ∧ a ≤ m - i ∧ i ≤ m ∧ m + j ≤ b
theorem RotTo.start {a m b : Nat} (d : Array α) (h1 : a ≤ m) (h2 : m ≤ b) : RotTo a m b d (m - a) (b - m) d :=
  ⟨permIn_refl _ _ _, fun x => by rw [show m - (m - a) = a by omega, show m + (b - m) = b by omega], by omega, by omega, by omega⟩
theorem RotTo.right {a m b i j : Nat} {d dk dn : Array α} (h : RotTo a m b d i j dk) (hb : b ≤ d.size) (hj : j < i) (hs : Swd (m - i) m j dk dn) : RotTo a m b d (i - j) j dn := by
  obtain ⟨h1, h2, h3, h4, h5⟩ := h
  refine ⟨permIn_trans _ _ _ _ _ h1 (permIn_mono _ _ _ _ _ _ h3 h5 (by rw [h1.1]; exact hb) hs.1), fun x => ?_, by omega, by omega, h5⟩
  rw [← h2, ← rot_gt m i j h4 hj (atA dk) x]
  have e : atA dn = swF (m - i) m j (atA dk) := funext hs.2
  rw [e]
theorem RotTo.left {a m b i j : Nat} {d dk dn : Array α} (h : RotTo a m b d i j dk) (hb : b ≤ d.size) (hj : i < j) (hs : Swd (m - i) (m + j - i) i dk dn) : RotTo a m b d i (j - i) dn := by
  obtain ⟨h1, h2, h3, h4, h5⟩ := h
  refine ⟨permIn_trans _ _ _ _ _ h1 (permIn_mono _ _ _ _ _ _ h3 (by omega) (by rw [h1.1]; exact hb) hs.1), fun x => ?_, h3, h4, by omega⟩
  rw [← h2, ← rot_lt m i j h4 hj (atA dk) x]
  have e : atA dn = swF (m - i) (m + j - i) i (atA dk) := funext hs.2
  rw [e]
theorem RotTo.done {a m b i : Nat} {d dk dn : Array α} (h : RotTo a m b d i i dk) (hb : b ≤ d.size) (hs : Swd (m - i) m i dk dn) : Rot a m b d dn := by
  obtain ⟨h1, h2, h3, h4, h5⟩ := h
  refine ⟨permIn_trans _ _ _ _ _ h1 (permIn_mono _ _ _ _ _ _ h3 h5 (by rw [h1.1]; exact hb) hs.1), fun x => ?_⟩
  rw [← h2, ← rot_eq m i h4 (atA dk) x]
  exact hs.2 x
theorem Rot.one (a : Nat) (d : Array α) : Rot a (a + 1) (a + 1) d d := ⟨permIn_refl _ _ _, fun x => (rot_right a (a + 1) (atA d) x).symm⟩
theorem Rot.up {a k : Nat} {d d' : Array α} (h : Rot a (a + 1) (k + 1) d d') (hk : a ≤ k) (hb : k + 1 < d.size) : Rot a (a + 1) (k + 2) d (swp d' k (k + 1)) := by
  have hs : d'.size = d.size := h.1.1
  refine ⟨permIn_trans _ _ _ _ _ (permIn_mono _ _ _ _ _ _ (Nat.le_refl _) (by omega) (by omega) h.1) (swp_permIn _ _ _ _ _ (by omega) (by omega) (by omega) (by omega) (by omega)), fun x => ?_⟩
  rw [Go.Sort.swp_get d' (by omega) (by omega), ← rot_up a k hk (atA d) x, h.2, h.2, h.2]
theorem Rot.none (m b : Nat) (d : Array α) : Rot m m b d d := ⟨permIn_refl _ _ _, fun x => (rot_left m b (atA d) x).symm⟩
theorem Rot.down {k m : Nat} {d d' : Array α} (h : Rot (k + 1) m (m + 1) d d') (hk : k + 1 ≤ m) (hb : m < d.size) : Rot k m (m + 1) d (swp d' (k + 1) k) := by
  have hs : d'.size = d.size := h.1.1
  refine ⟨permIn_trans _ _ _ _ _ (permIn_mono _ _ _ _ _ _ (by omega) (Nat.le_refl _) (by omega) h.1) (swp_permIn _ _ _ _ _ (by omega) (by omega) (by omega) (by omega) (by omega)), fun x => ?_⟩
  rw [Go.Sort.swp_get d' (by omega) (by omega), ← rot_down k m hk (atA d) x, h.2, h.2, h.2]
/-- A merge. -/
def Mrg (lt : α → α → Bool) (a b : Nat) (d d' : Array α) : Prop := PermIn a b d d' ∧ SortedIn lt a b d'
omit [Inhabited α] in
theorem le_trans' (hS : SWO lt) {x y z : α} (h1 : lt y x = false) (h2 : lt z y = false) : lt z x = false := hS.ntrans z y x h2 h1
theorem sorted_le (hS : SWO lt) {a b : Nat} {d : Array α} (h : SortedIn lt a b d) {i j : Nat} (hi : a ≤ i) (hij : i ≤ j) (hj : j < b) : lt d[j]! d[i]! = false := by
  by_cases e : i = j
  · subst e; exact hS.irrefl _
  · exact h i j hi (by omega) hj
/-- One element put in from the left. -/
theorem mrg_left (hS : SWO lt) {a i b : Nat} {d d' : Array α} (hR : Rot a (a + 1) i d d') (hi : a + 1 ≤ i) (hib : i ≤ b) (hbs : b ≤ d.size) (hs : SortedIn lt (a + 1) b d) (h1 : ∀ x, a + 1 ≤ x → x < i → lt d[x]! d[a]! = true) (h2 : ∀ x, i ≤ x → x < b → lt d[x]! d[a]! = false) : Mrg lt a b d d' := by
  refine ⟨permIn_mono _ _ _ _ _ _ (Nat.le_refl _) hib hbs hR.1, fun p q hp hpq hq => ?_⟩
  rw [hR.2, hR.2]
  unfold rotF atA
  by_cases c1 : q < i - 1
  · rw [if_pos (by omega), if_pos (by omega)]
    exact sorted_le hS hs (by omega) (by omega) (by omega)
  · by_cases c2 : q = i - 1
    · rw [if_neg (by omega), if_pos (by omega), if_pos (by omega)]
      have e : q - (i - (a + 1)) = a := by omega
      rw [e]
      exact hS.asymm (h1 _ (by omega) (by omega))
    · by_cases c3 : p < i - 1
      · rw [if_neg (by omega), if_neg (by omega), if_pos (by omega)]
        exact sorted_le hS hs (by omega) (by omega) (by omega)
      · by_cases c4 : p = i - 1
        · rw [if_neg (by omega), if_neg (by omega), if_neg (by omega), if_pos (by omega)]
          rw [show p - (i - (a + 1)) = a by omega]
          exact h2 q (by omega) hq
        · rw [if_neg (by omega), if_neg (by omega), if_neg (by omega), if_neg (by omega)]
          exact sorted_le hS hs (by omega) (by omega) (by omega)
/-- One element put in from the right. -/
theorem mrg_right (hS : SWO lt) {a i m : Nat} {d d' : Array α} (hR : Rot i m (m + 1) d d') (hi : a ≤ i) (him : i ≤ m) (hbs : m + 1 ≤ d.size) (hs : SortedIn lt a m d) (h1 : ∀ x, a ≤ x → x < i → lt d[m]! d[x]! = false) (h2 : ∀ x, i ≤ x → x < m → lt d[m]! d[x]! = true) : Mrg lt a (m + 1) d d' := by
  refine ⟨permIn_mono _ _ _ _ _ _ hi (Nat.le_refl _) hbs hR.1, fun p q hp hpq hq => ?_⟩
  rw [hR.2, hR.2]
  unfold rotF atA
  by_cases c1 : q < i
  · rw [if_neg (by omega), if_neg (by omega), if_neg (by omega), if_neg (by omega)]
    exact sorted_le hS hs (by omega) (by omega) (by omega)
  · by_cases c2 : q = i
    · rw [if_pos (by omega), if_neg (by omega), if_neg (by omega)]
      rw [show q + (m - i) = m by omega]
      exact h1 p hp (by omega)
    · by_cases c3 : p < i
      · rw [if_neg (by omega), if_pos (by omega), if_neg (by omega), if_neg (by omega)]
        exact sorted_le hS hs (by omega) (by omega) (by omega)
      · by_cases c4 : p = i
        · rw [if_neg (by omega), if_pos (by omega), if_pos (by omega)]
          rw [show p + (m - i) = m by omega]
          exact hS.asymm (h2 _ (by omega) (by omega))
        · rw [if_neg (by omega), if_pos (by omega), if_neg (by omega), if_pos (by omega)]
          exact sorted_le hS hs (by omega) (by omega) (by omega)
/-- What symMerge's search finds. -/
structure Cutd (lt : α → α → Bool) (a m b mid s : Nat) (d : Array α) : Prop where
  h1 : a ≤ s
  h2 : s ≤ m
  h3 : s ≤ mid
  h4 : m ≤ mid + m - s
  h5 : mid + m - s ≤ b
  low : (mid < m ∧ s = mid + m - b) ∨ (m ≤ mid ∧ s = a) ∨ (a < s ∧ mid + m - s < b ∧ lt d[mid + m - s]! d[s - 1]! = false)
  high : (mid < m ∧ s = mid) ∨ (m ≤ mid ∧ s = m) ∨ (s < m ∧ m < mid + m - s ∧ lt d[mid + m - s - 1]! d[s]! = true)
theorem mrg_parts (hS : SWO lt) {a m b mid s : Nat} {d d1 d2 d3 : Array α} (ham : a < m) (hmb : m < b) (hmid : mid = (a + b) / 2) (hb : b ≤ d.size) (hl : SortedIn lt a m d) (hr : SortedIn lt m b d) (hc : Cutd lt a m b mid s d)
    (hR : Rot s m (mid + m - s) d d1) (h2 : Mrg lt a mid d1 d2) (h3 : Mrg lt mid b d2 d3) : Mrg lt a b d d3 := by
  obtain ⟨c1, c2, c3, c4, c5, cl, ch⟩ := hc
  have hs1 : d1.size = d.size := hR.1.1
  have hs2 : d2.size = d.size := h2.1.1.trans hs1
  have p1 : PermIn a b d d1 := permIn_mono _ _ _ _ _ _ c1 c5 hb hR.1
  have p2 : PermIn a b d1 d2 := permIn_mono _ _ _ _ _ _ (Nat.le_refl _) (by omega) (by omega) h2.1
  have p3 : PermIn a b d2 d3 := permIn_mono _ _ _ _ _ _ (by omega) (Nat.le_refl _) (by omega) h3.1
  refine ⟨permIn_trans _ _ _ _ _ (permIn_trans _ _ _ _ _ p1 p2) p3, fun p q hp hpq hq => ?_⟩
  -- cross
  have cross1 : ∀ i j, a ≤ i → i < mid → mid ≤ j → j < b → lt d1[j]! d1[i]! = false := by
    intro i j hi1 hi2 hj1 hj2
    rw [hR.2, hR.2]
    unfold rotF atA
    have ll : ∀ i j, a ≤ i → i < s → s ≤ j → j < m → lt d[j]! d[i]! = false := fun i j h1 h2 h3 h4 => sorted_le hS hl h1 (by omega) h4
    have rr : ∀ i j, m ≤ i → i < mid + m - s → mid + m - s ≤ j → j < b → lt d[j]! d[i]! = false := fun i j h1 h2 h3 h4 => sorted_le hS hr h1 (by omega) h4
    have lr : ∀ i j, a ≤ i → i < s → mid + m - s ≤ j → j < b → lt d[j]! d[i]! = false := by
      intro i j h1 h2 h3 h4
      rcases cl with cl | cl | cl
      · omega
      · omega
      · exact le_trans' hS (le_trans' hS (sorted_le hS hl h1 (show i ≤ s - 1 by omega) (by omega)) cl.2.2) (sorted_le hS hr (by omega) h3 h4)
    have rl : ∀ i j, m ≤ i → i < mid + m - s → s ≤ j → j < m → lt d[j]! d[i]! = false := by
      intro i j h1 h2 h3 h4
      rcases ch with ch | ch | ch
      · omega
      · omega
      · exact le_trans' hS (le_trans' hS (sorted_le hS hr h1 (show i ≤ mid + m - s - 1 by omega) (by omega)) (hS.asymm ch.2.2)) (sorted_le hS hl (by omega) h3 h4)
    by_cases k1 : i < s
    · have ei : (if s ≤ i ∧ i < s + (mid + m - s - m) then d[i + (m - s)]! else if s + (mid + m - s - m) ≤ i ∧ i < mid + m - s then d[i - (mid + m - s - m)]! else d[i]!) = d[i]! := by rw [if_neg (by omega), if_neg (by omega)]
      rw [ei]
      by_cases k2 : j < mid + m - s
      · rw [if_neg (by omega), if_pos (by omega)]
        exact ll _ _ hi1 k1 (by omega) (by omega)
      · rw [if_neg (by omega), if_neg (by omega)]
        exact lr _ _ hi1 k1 (by omega) hj2
    · have ei : (if s ≤ i ∧ i < s + (mid + m - s - m) then d[i + (m - s)]! else if s + (mid + m - s - m) ≤ i ∧ i < mid + m - s then d[i - (mid + m - s - m)]! else d[i]!) = d[i + (m - s)]! := by rw [if_pos (by omega)]
      rw [ei]
      by_cases k2 : j < mid + m - s
      · rw [if_neg (by omega), if_pos (by omega)]
        exact rl _ _ (by omega) (by omega) (by omega) (by omega)
      · rw [if_neg (by omega), if_neg (by omega)]
        exact rr _ _ (by omega) (by omega) (by omega) hj2
  have cross2 : ∀ i j, a ≤ i → i < mid → mid ≤ j → j < b → lt d2[j]! d2[i]! = false := by
    intro i j hi1 hi2 hj1 hj2
    rw [h2.1.2.1 j (by omega)]
    exact permIn_all d1 d2 a mid (fun x => lt d1[j]! x = false) (by omega) h2.1 (fun i h1 h2 => cross1 i j h1 h2 hj1 hj2) i hi1 hi2
  have cross3 : ∀ i j, a ≤ i → i < mid → mid ≤ j → j < b → lt d3[j]! d3[i]! = false := by
    intro i j hi1 hi2 hj1 hj2
    rw [h3.1.2.1 i (by omega)]
    exact permIn_all d2 d3 mid b (fun x => lt x d2[i]! = false) (by omega) h3.1 (fun j h1 h2 => cross2 i j hi1 hi2 h1 h2) j hj1 hj2
  by_cases k1 : q < mid
  · have s3 : ∀ x, x < mid → d3[x]! = d2[x]! := fun x hx => h3.1.2.1 x (by omega)
    rw [s3 q k1, s3 p (by omega)]
    exact h2.2 p q hp hpq k1
  · by_cases k2 : p < mid
    · exact cross3 p q hp k2 (by omega) hq
    · exact h3.2 p q (by omega) hpq hq
end
end Go.Proofs.Ytngbjdaaogbjmaa

/-
  Walks: slices.SortStableFunc at the rows of topdown: the closure, insertionSort's contract laid, swapRange, rotate.
-/
namespace Go.Proofs.Ytngbjdaaogbjmaa
open Go.Shelf Go.RowKit Go.Lib Go.Sort

def rcells (c : Nat) : List Value := [.int .i64 (evW c), .int .u64 (loW c), .int .u64 (hiW c)]
/-- A number as a row: its low bits. -/
def lowR (c : Nat) : Nat := c % 5708990770823839524233143877797980545530986496
theorem lowR_lt (c : Nat) : RowLt 152 (lowR c) := rowLt_of_num (Nat.lt_of_lt_of_le (Nat.mod_lt _ (by decide)) (by decide))
theorem lowR_of {c : Nat} (h : RowLt 152 c) : lowR c = c := Nat.mod_eq_of_lt (Nat.lt_of_lt_of_le (rowLt_num h) (by decide))
def encR (c : Nat) : List Value := rcells (lowR c)
def cfR (a b : Nat) : Int := (pc (lowR a) : Int) - (pc (lowR b) : Int)
theorem ltR (a b : Nat) : ltOf cfR a b = decide (pc (lowR a) < pc (lowR b)) := by
  unfold ltOf cfR
  rw [decide_eq_decide]; omega
theorem swoR : SWO (ltOf cfR) where
  irrefl x := by rw [ltR]; simp
  trans x y z h1 h2 := by rw [ltR] at *; simp at *; omega
  ntrans x y z h1 h2 := by rw [ltR] at *; simp at *; omega
theorem drewN_alloc_grow (w : World) (C : Obj) (n : Nat) : (w.alloc C).drewN n = grow (w.drewN n) #[C] := by
  rw [alloc_eq_grow]; rfl
theorem grow_two (W : World) (X Y : Obj) (n : Nat) (os : Array Obj) : grow (((W.alloc X).alloc Y).drewN n) os = grow (W.drewN n) (#[X] ++ (#[Y] ++ os)) := by
  rw [alloc_eq_grow, alloc_eq_grow]
  show grow (grow (grow (W.drewN n) #[X]) #[Y]) os = _
  rw [grow_grow, grow_grow]
end Go.Proofs.Ytngbjdaaogbjmaa

/-
  Walks over a program that is a variable: swapRange and rotate of slices.SortStableFunc at the rows of topdown.
-/
namespace Go.Proofs.Ytngbjdaaogbjmaa
open Go.Shelf Go.RowKit Go.Lib Go.Sort

section
variable {P : Program} {α : Type} [Inhabited α]
end
end Go.Proofs.Ytngbjdaaogbjmaa

/-
  Walks over a program that is a variable: symMerge of slices.SortStableFunc at the rows of topdown.
-/
namespace Go.Proofs.Ytngbjdaaogbjmaa
open Go.Shelf Go.RowKit Go.Lib Go.Sort
section
variable {P : Program} {α : Type} [Inhabited α]
end
end Go.Proofs.Ytngbjdaaogbjmaa

/-
  Walks over a program that is a variable: symMerge of slices.SortStableFunc at the rows of topdown.
-/
namespace Go.Proofs.Ytngbjdaaogbjmaa
open Go.Shelf Go.RowKit Go.Lib Go.Sort
section
variable {P : Program} {α : Type} [Inhabited α]
end
end Go.Proofs.Ytngbjdaaogbjmaa

/-
  Walks over a program that is a variable: symMerge of slices.SortStableFunc at the rows of topdown, whole.
-/
namespace Go.Proofs.Ytngbjdaaogbjmaa
open Go.Shelf Go.RowKit Go.Lib Go.Sort
section
variable {P : Program} {α : Type} [Inhabited α]
theorem Rot.right (a b : Nat) (d : Array α) : Rot a b b d d := ⟨permIn_refl _ _ _, fun x => (rot_right a b (atA d) x).symm⟩
theorem Mrg.triv {lt : α → α → Bool} {a b : Nat} {d : Array α} (h : SortedIn lt a b d) : Mrg lt a b d d := ⟨permIn_refl _ _ _, h⟩
/-- The search of symMerge: what is known in the range that is still open. -/
structure Srch (lt : α → α → Bool) (p s0 r0 s r : Nat) (d : Array α) : Prop where
  a : s0 ≤ s
  b : s ≤ r
  c : r ≤ r0
  lo : ∀ x, s0 ≤ x → x < s → lt d[p - x]! d[x]! = false
  hi : ∀ x, r ≤ x → x < r0 → lt d[p - x]! d[x]! = true
/-- The bounds of the range. -/
def Ends (a m b mid s0 r0 : Nat) : Prop := (mid < m ∧ s0 = mid + m - b ∧ r0 = mid) ∨ (m ≤ mid ∧ s0 = a ∧ r0 = m)
theorem Srch.up {lt : α → α → Bool} (hO : SWO lt) {a m b mid s0 r0 s r c : Nat} {d : Array α} (h : Srch lt (mid + m - 1) s0 r0 s r d) (he : Ends a m b mid s0 r0) (_ham : a < m) (hmb : m < b) (hmid : mid = (a + b) / 2) (hl : SortedIn lt a m d) (hr : SortedIn lt m b d) (h1 : s ≤ c) (h2 : c < r) (hv : lt d[mid + m - 1 - c]! d[c]! = false) : Srch lt (mid + m - 1) s0 r0 (c + 1) r d := by
  have ha := h.a; have hb := h.b; have hc := h.c
  refine ⟨by omega, by omega, hc, fun x hx1 hx2 => ?_, h.hi⟩
  have e1 : a ≤ x := by rcases he with he | he <;> omega
  have e2 : c < m := by rcases he with he | he <;> omega
  have e3 : m ≤ mid + m - 1 - c := by rcases he with he | he <;> omega
  have e4 : mid + m - 1 - x < b := by rcases he with he | he <;> omega
  exact le_trans' hO (le_trans' hO (sorted_le hO hl e1 (show x ≤ c by omega) e2) hv) (sorted_le hO hr e3 (show mid + m - 1 - c ≤ mid + m - 1 - x by omega) e4)
theorem Srch.down {lt : α → α → Bool} (hO : SWO lt) {a m b mid s0 r0 s r c : Nat} {d : Array α} (h : Srch lt (mid + m - 1) s0 r0 s r d) (he : Ends a m b mid s0 r0) (_ham : a < m) (hmb : m < b) (hmid : mid = (a + b) / 2) (hl : SortedIn lt a m d) (hr : SortedIn lt m b d) (h1 : s ≤ c) (h2 : c < r) (hv : lt d[mid + m - 1 - c]! d[c]! = true) : Srch lt (mid + m - 1) s0 r0 s c d := by
  have ha := h.a; have hb := h.b; have hc := h.c
  refine ⟨ha, h1, by omega, h.lo, fun x hx1 hx2 => ?_⟩
  have e1 : a ≤ c := by rcases he with he | he <;> omega
  have e2 : x < m := by rcases he with he | he <;> omega
  have e3 : m ≤ mid + m - 1 - x := by rcases he with he | he <;> omega
  have e4 : mid + m - 1 - c < b := by rcases he with he | he <;> omega
  cases hx : lt d[mid + m - 1 - x]! d[x]! with
  | true => rfl
  | false =>
    have := le_trans' hO (le_trans' hO (sorted_le hO hl e1 hx1 e2) hx) (sorted_le hO hr e3 (show mid + m - 1 - x ≤ mid + m - 1 - c by omega) e4)
    rw [this] at hv; cases hv
theorem Srch.cut {lt : α → α → Bool} {a m b mid s0 r0 s : Nat} {d : Array α} (h : Srch lt (mid + m - 1) s0 r0 s s d) (he : Ends a m b mid s0 r0) (ham : a < m) (hmb : m < b) (hmid : mid = (a + b) / 2) : Cutd lt a m b mid s d := by
  have ha := h.a; have hc := h.c
  refine ⟨by rcases he with he | he <;> omega, by rcases he with he | he <;> omega, by rcases he with he | he <;> omega, by rcases he with he | he <;> omega, by rcases he with he | he <;> omega, ?_, ?_⟩
  · by_cases e : s = s0
    · rcases he with he | he
      · exact .inl ⟨he.1, by omega⟩
      · exact .inr (.inl ⟨he.1, by omega⟩)
    · have := h.lo (s - 1) (by omega) (by omega)
      rw [show mid + m - 1 - (s - 1) = mid + m - s by rcases he with he | he <;> omega] at this
      exact .inr (.inr ⟨by rcases he with he | he <;> omega, by rcases he with he | he <;> omega, this⟩)
  · by_cases e : s = r0
    · rcases he with he | he
      · exact .inl ⟨he.1, by omega⟩
      · exact .inr (.inl ⟨he.1, by omega⟩)
    · have := h.hi s (Nat.le_refl _) (by omega)
      rw [show mid + m - 1 - s = mid + m - s - 1 by omega] at this
      exact .inr (.inr ⟨by rcases he with he | he <;> omega, by rcases he with he | he <;> omega, this⟩)
/-- The parts behind the turn are sorted. -/
theorem Rot.sorted {lt : α → α → Bool} {a m b mid s : Nat} {d d1 : Array α} (hR : Rot s m (mid + m - s) d d1) (hc : Cutd lt a m b mid s d) (hl : SortedIn lt a m d) (hr : SortedIn lt m b d) :
    SortedIn lt a s d1 ∧ SortedIn lt s mid d1 ∧ SortedIn lt mid (mid + m - s) d1 ∧ SortedIn lt (mid + m - s) b d1 := by
  obtain ⟨c1, c2, c3, c4, c5, _, _⟩ := hc
  refine ⟨fun i j hi hij hj => ?_, fun i j hi hij hj => ?_, fun i j hi hij hj => ?_, fun i j hi hij hj => ?_⟩ <;> rw [hR.2, hR.2] <;> unfold rotF atA
  · rw [if_neg (by omega), if_neg (by omega), if_neg (by omega), if_neg (by omega)]
    exact hl i j hi hij (by omega)
  · rw [if_pos (by omega), if_pos (by omega)]
    exact hr _ _ (by omega) (by omega) (by omega)
  · rw [if_neg (by omega), if_pos (by omega), if_neg (by omega), if_pos (by omega)]
    exact hl _ _ (by omega) (by omega) (by omega)
  · rw [if_neg (by omega), if_neg (by omega), if_neg (by omega), if_neg (by omega)]
    exact hr i j (by omega) hij hj
end
end Go.Proofs.Ytngbjdaaogbjmaa

/-
  Walks: slices.SortStableFunc at the rows of topdown: the row behind it is a permutation, sorted.
-/
namespace Go.Proofs.Ytngbjdaaogbjmaa
open Go.Shelf Go.RowKit Go.Lib Go.Sort

section
variable {α : Type} [Inhabited α] {lt : α → α → Bool}
theorem dvd_step {k x a : Nat} (h1 : k ∣ x) (h2 : k ∣ a) (h : x < a) : x + k ≤ a := by
  obtain ⟨u, rfl⟩ := h1
  obtain ⟨v, rfl⟩ := h2
  have : u < v := Nat.lt_of_mul_lt_mul_left h
  have := Nat.mul_le_mul_left k (show u + 1 ≤ v from this)
  rw [Nat.mul_add, Nat.mul_one] at this
  exact this
/-- Sorted in each block of k below a. -/
def Blks (lt : α → α → Bool) (k a : Nat) (d : Array α) : Prop := ∀ x, k ∣ x → x < a → SortedIn lt x (x + k) d
/-- Sorted in each block of k from a on. -/
def BlkF (lt : α → α → Bool) (k a n : Nat) (d : Array α) : Prop := ∀ x, k ∣ x → a ≤ x → SortedIn lt x (min (x + k) n) d
theorem Blks.step {k a : Nat} {d d' : Array α} (h : Blks lt k a d) (ha : k ∣ a) (hm : Mrg lt a (a + k) d d') : Blks lt k (a + k) d' := by
  intro x hx hxa
  by_cases e : x < a
  · have := dvd_step hx ha e
    exact (h x hx e).congr fun i _ h2 => hm.1.2.1 i (.inl (by omega))
  · have : x = a := by
      by_cases e2 : a < x
      · have := dvd_step ha hx e2; omega
      · omega
    subst this; exact hm.2
theorem Blks.last {k a n : Nat} {d d' : Array α} (h : Blks lt k a d) (ha : k ∣ a) (han : a ≤ n) (hn : n < a + k) (hm : Mrg lt a n d d') : BlkF lt k 0 n d' := by
  intro x hx _
  by_cases e : x < a
  · have := dvd_step hx ha e
    rw [Nat.min_eq_left (by omega)]
    exact (h x hx e).congr fun i _ h2 => hm.1.2.1 i (.inl (by omega))
  · by_cases e2 : a < x
    · have := dvd_step ha hx e2
      rw [Nat.min_eq_right (by omega)]
      exact fun i j h1 h2 h3 => by omega
    · have : x = a := by omega
      subst this
      rw [Nat.min_eq_right (by omega)]
      exact hm.2
theorem BlkF.step {k a n b : Nat} {d d' : Array α} (h : BlkF lt k a n d) (hab : a ≤ b) (hp : PermIn a b d d') : BlkF lt k b n d' := fun x hx hxb =>
  (h x hx (by omega)).congr fun i h1 _ => hp.2.1 i (.inr (by omega))
theorem insMrg (hO : SWO lt) (d : Array α) (a b : Nat) (hab : a ≤ b) (hb : b ≤ d.size) : Mrg lt a b d (Sort.insertionSort lt d a b) := by
  have h := insertionSort_holds hO d a b hab hb
  exact ⟨h.1, h.2⟩
end
theorem rowK_of {blk off : Nat} {d : Array Nat} {w : World} (hH : HoldsK encR 3 w blk off d) (hb : blk < w.heap.size) : RowK encR 3 w blk off d where
  hk _ := rfl
  h1 x v hv := by simp [encR, rcells] at hv; rcases hv with rfl | rfl | rfl <;> rfl
  hH := hH
  hblk := hb
end Go.Proofs.Ytngbjdaaogbjmaa

/-
  Slices of rows of topdown. Walk: topdown.greatest.
-/
namespace Go.Proofs.Ytngbjdaaogbjmaa
open Go.RowKit

/-- A slice of rows that can be read. -/
def RwsAt (w : World) (v : Value) (L : List Nat) : Prop :=
  ∃ (a : Option Addr) (c : Nat), v = .slice a L.length c ∧ (L.length ≤ c ∧ (a = none → c = 0)) ∧ L.length ≤ 10000 ∧ (∀ c ∈ L, RowLt 152 c) ∧
    ∀ i (h : i < L.length), ∃ b o, a = some ⟨b, o, none⟩ ∧ w.rangeAt b (o + i * 3) (rcells L[i])
theorem range_kept {w w' : World} {b o : Nat} {cs : List Value} (h : w.rangeAt b o cs) (hk : Kept w w') : w'.rangeAt b o cs := fun j v hj => hk.cell (h j v hj)
theorem RwsAt.kept {w w' : World} {v : Value} {L : List Nat} (h : RwsAt w v L) (hk : Kept w w') : RwsAt w' v L := by
  obtain ⟨a, c, h1, h2, h3, h4, h5⟩ := h
  exact ⟨a, c, h1, h2, h3, h4, fun i hi => let ⟨b, o, h6, h7⟩ := h5 i hi; ⟨b, o, h6, range_kept h7 hk⟩⟩
theorem len_flat (L : List Nat) : (L.flatMap rcells).length = L.length * 3 := by
  induction L with
  | nil => rfl
  | cons c L ih => simp [rcells, ih]; omega
theorem flat_get (L : List Nat) : ∀ i (h : i < L.length) j, j < 3 → (L.flatMap rcells)[i * 3 + j]? = (rcells L[i])[j]? := by
  induction L with
  | nil => intro i h; simp at h
  | cons c L ih =>
    intro i h j hj
    rw [List.flatMap_cons]
    cases i with
    | zero => rw [List.getElem?_append_left (by simp [rcells]; omega)]; simp
    | succ i =>
      rw [List.getElem?_append_right (by simp [rcells]; omega), show (rcells c).length = 3 from rfl, show (i + 1) * 3 + j - 3 = i * 3 + j by omega]
      exact ih i (by simpa using h) j hj
theorem RwsAt.shape {w : World} {v : Value} {L : List Nat} (h : RwsAt w v L) : ∃ a c, v = .slice a L.length c := by
  obtain ⟨a, c, h, _⟩ := h; exact ⟨a, c, h⟩
/-- The greatest node of a row. -/
def TopIs (c : Nat) (r : Int) : Prop := (∀ j, c.testBit (24 + j) = true → (j : Int) ≤ r) ∧ (r = -1 ∨ ∃ i : Nat, r = i ∧ c.testBit (24 + i) = true)
def GTop (L : List Nat) (r : Int) : Prop := (∀ c ∈ L, ∀ j, c.testBit (24 + j) = true → (j : Int) ≤ r) ∧ (r = -1 ∨ ∃ i : Nat, r = i ∧ ∃ c ∈ L, c.testBit (24 + i) = true)
theorem bitLen_top {x : Nat} (h : x < 18446744073709551616) (h0 : x ≠ 0) : ∃ n, Lib.bitLen x = n + 1 ∧ n < 64 ∧ x.testBit n = true ∧ ∀ j, x.testBit j = true → j ≤ n := by
  obtain ⟨h1, h2, h3⟩ := Lib.bitLenAux_bounds 64 x h h0
  have h4 := Lib.bitLen_le x 64 (by omega) h
  unfold Lib.bitLen at *
  obtain ⟨n, hn⟩ : ∃ n, Lib.bitLenAux 64 x = n + 1 := ⟨Lib.bitLenAux 64 x - 1, by omega⟩
  rw [hn] at h2 h3 h4
  refine ⟨n, hn, by omega, ?_, fun j hj => ?_⟩
  · have h2' : 2 ^ n ≤ x := h2
    obtain ⟨i, hi, hb⟩ := Nat.exists_ge_and_testBit_of_ge_two_pow h2'
    by_cases e : i = n
    · subst e; exact hb
    · rw [Nat.testBit_lt_two_pow (Nat.lt_of_lt_of_le h3 (Nat.pow_le_pow_right (by omega) (by omega)))] at hb; cases hb
  · apply Nat.le_of_not_lt
    intro hlt
    rw [Nat.testBit_lt_two_pow (Nat.lt_of_lt_of_le h3 (Nat.pow_le_pow_right (by omega) (by omega)))] at hj; cases hj
theorem topIs_hi {c n : Nat} (h1 : (hiW c).testBit n = true) (h2 : ∀ j, (hiW c).testBit j = true → j ≤ n) : TopIs c ((64 + n : Nat) : Int) := by
  refine ⟨fun j hj => ?_, .inr ⟨64 + n, rfl, by rw [hiW_bit] at h1; rw [show 24 + (64 + n) = 88 + n by omega]; exact h1⟩⟩
  by_cases c1 : j < 64
  · omega
  · have := h2 (j - 64) (by rw [hiW_bit, show 88 + (j - 64) = 24 + j by omega]; exact hj)
    omega
theorem topIs_lo {c n : Nat} (h0 : hiW c = 0) (h1 : (loW c).testBit n = true) (h2 : ∀ j, (loW c).testBit j = true → j ≤ n) : TopIs c (n : Int) := by
  have hn : n < 64 := by rw [loW_bit] at h1; simp at h1; exact h1.1
  refine ⟨fun j hj => ?_, .inr ⟨n, rfl, by rw [loW_bit] at h1; simp at h1; exact h1.2⟩⟩
  by_cases c1 : j < 64
  · have := h2 j (by rw [loW_bit]; simp [c1, hj])
    omega
  · have h3 : (hiW c).testBit (j - 64) = true := by rw [hiW_bit, show 88 + (j - 64) = 24 + j by omega]; exact hj
    rw [h0] at h3; simp at h3
theorem topIs_none {c : Nat} (h0 : hiW c = 0) (h1 : loW c = 0) : TopIs c (-1) := by
  refine ⟨fun j hj => ?_, .inl rfl⟩
  exfalso
  by_cases c1 : j < 64
  · have h3 : (loW c).testBit j = true := by rw [loW_bit]; simp [c1, hj]
    rw [h1] at h3; simp at h3
  · have h3 : (hiW c).testBit (j - 64) = true := by rw [hiW_bit, show 88 + (j - 64) = 24 + j by omega]; exact hj
    rw [h0] at h3; simp at h3
theorem GTop.snoc {L : List Nat} {c : Nat} {r s : Int} (h : GTop L r) (hc : TopIs c s) : GTop (L ++ [c]) (max r s) := by
  obtain ⟨h1, h2⟩ := h
  obtain ⟨h3, h4⟩ := hc
  refine ⟨fun x hx j hj => ?_, ?_⟩
  · rcases List.mem_append.1 hx with hx | hx
    · have := h1 x hx j hj; omega
    · simp at hx; subst hx
      have := h3 j hj; omega
  · by_cases e : r ≤ s
    · rw [show max r s = s by omega]
      rcases h4 with h4 | ⟨i, h4, h5⟩
      · exact .inl h4
      · exact .inr ⟨i, h4, c, by simp, h5⟩
    · rw [show max r s = r by omega]
      rcases h2 with h2 | ⟨i, h2, x, hx, h5⟩
      · exact .inl h2
      · exact .inr ⟨i, h2, x, List.mem_append.2 (.inl hx), h5⟩
theorem GTop.nil : GTop [] (-1) := ⟨fun c h => by simp at h, .inl rfl⟩
end Go.Proofs.Ytngbjdaaogbjmaa

/-
  slices.SortStableFunc at the rows of topdown, in the words of V3.
-/
namespace Go.Proofs.Ytngbjdaaogbjmaa
open Go.Shelf Go.RowKit Go.Lib Go.Sort

theorem flat_getE (L : List Nat) : ∀ i (h : i < L.length) j, j < 3 → (L.flatMap encR)[i * 3 + j]? = (encR L[i])[j]? := by
  induction L with
  | nil => intro i h; simp at h
  | cons c L ih =>
    intro i h j hj
    rw [List.flatMap_cons]
    cases i with
    | zero => rw [List.getElem?_append_left (by simp [encR, rcells]; omega)]; simp
    | succ i =>
      rw [List.getElem?_append_right (by simp [encR, rcells]; omega), show (encR c).length = 3 from rfl, show (i + 1) * 3 + j - 3 = i * 3 + j by omega]
      exact ih i (by simpa using h) j hj
theorem len_flatE (L : List Nat) : (L.flatMap encR).length = L.length * 3 := by
  induction L with
  | nil => rfl
  | cons c L ih => simp [encR, rcells, ih]; omega
theorem flatK_list (L : List Nat) : (flatK encR 3 L.toArray).toList = L.flatMap encR := by
  apply List.ext_getElem?
  intro t
  by_cases h : t < L.length * 3
  · have hi : t / 3 < L.length := by omega
    have e := flat_getE L (t / 3) hi (t % 3) (by omega)
    rw [show t / 3 * 3 + t % 3 = t by omega] at e
    rw [e]
    have e2 : (flatK encR 3 L.toArray)[t]! = (encR L.toArray[t / 3]!)[t % 3]! := get_flatK encR 3 L.toArray t (by simpa using h)
    have e3 : (flatK encR 3 L.toArray).toList[t]? = some (flatK encR 3 L.toArray)[t]! := by
      have hs : t < (flatK encR 3 L.toArray).size := by rw [size_flatK]; simpa using h
      rw [Array.getElem?_toList, Array.getElem?_eq_getElem hs, getElem!_pos _ t hs]
    rw [e3, e2]
    have e4 : L.toArray[t / 3]! = L[t / 3] := by rw [getElem!_pos _ _ (by simpa using hi)]; simp
    rw [e4]
    have h3 : t % 3 < (encR L[t / 3]).length := by show t % 3 < 3; omega
    rw [List.getElem?_eq_getElem h3, getElem!_pos (encR L[t / 3]) (t % 3) h3]
  · rw [List.getElem?_eq_none (by rw [Array.length_toList, size_flatK]; simp; omega), List.getElem?_eq_none (by rw [len_flatE]; omega)]
theorem flat_same {L : List Nat} (h : ∀ c ∈ L, RowLt 152 c) : L.flatMap encR = L.flatMap rcells := by
  induction L with
  | nil => rfl
  | cons c L ih =>
    rw [List.flatMap_cons, List.flatMap_cons, ih fun x hx => h x (List.mem_cons_of_mem _ hx)]
    unfold encR
    rw [lowR_of (h c (List.mem_cons_self ..))]
end Go.Proofs.Ytngbjdaaogbjmaa

/-
  Walks: the list of topdown: add.
-/
namespace Go.Proofs.Ytngbjdaaogbjmaa
open Go.RowKit

def addK (L : List Nat) (c : Nat) : List Nat := if L.length ≤ 4096 then L ++ [c] else L
/-- What the list's methods leave: but for the pointer's cell and the list's own row, all that was. -/
structure Frm (gl : Nat) (v v' : Value) (w w' : World) : Prop where
  os : w'.os = w.os
  tape : w'.tape = w.tape
  output : w'.output = w.output
  size : w.heap.size ≤ w'.heap.size
  block : ∀ k, k < w.heap.size → k ≠ gl → some k ≠ v.ownBlock → w'.heap[k]? = w.heap[k]?
  own : v'.ownBlock = v.ownBlock ∨ ∀ g, v'.ownBlock = some g → w.heap.size ≤ g
theorem Frm.of_kept {gl : Nat} {v : Value} {w w' : World} (h : Kept w w') : Frm gl v v w w' := ⟨h.os, h.tape, h.output, h.size, fun k hk _ _ => h.block k hk, .inl rfl⟩
theorem Frm.trans {gl : Nat} {v v1 v2 : Value} {w w1 w2 : World} (h : Frm gl v v1 w w1) (k : Frm gl v1 v2 w1 w2) : Frm gl v v2 w w2 := by
  have hs := h.size
  refine ⟨k.os.trans h.os, k.tape.trans h.tape, k.output.trans h.output, Nat.le_trans h.size k.size, fun b hb h1 h2 => ?_, ?_⟩
  · refine (k.block b (by omega) h1 fun e => ?_).trans (h.block b hb h1 h2)
    rcases h.own with ho | ho
    · rw [ho] at e; exact h2 e
    · have := ho b e.symm; omega
  · rcases k.own with ko | ko
    · rw [ko]; exact h.own
    · exact .inr fun g hg => by have := ko g hg; omega
theorem Frm.cell {gl : Nat} {v v' : Value} {w w' : World} (h : Frm gl v v' w w') {b o : Nat} {u : Value} (hb : b < w.heap.size) (h1 : b ≠ gl) (h2 : some b ≠ v.ownBlock) (hc : w.cell? ⟨b, o, none⟩ = some u) : w'.cell? ⟨b, o, none⟩ = some u := by
  have := h.block b hb h1 h2
  simp only [World.cell?, this] at hc ⊢
  exact hc
theorem heap_new2d (w : World) (C O : Obj) : ((w.alloc C).alloc O).drew.heap[w.heap.size + 1]? = some O := by
  refine (Below.block (Kept.refl ((w.alloc C).alloc O)).drew (w.heap.size + 1) (by simp)).trans ?_
  simpa using heap_alloc_new (w.alloc C) O
end Go.Proofs.Ytngbjdaaogbjmaa

/-
  Walks: the list of topdown: choose.
-/
namespace Go.Proofs.Ytngbjdaaogbjmaa
open Go.RowKit

theorem chooseK_many (V : Nat) : ∀ (args : List Int) (k r : Nat), args.length < k → chooseK V args k r = []
  | [], k, r, h => by unfold chooseK; rw [if_neg (by simp at h; omega)]
  | a :: l, k, r, h => by
    simp at h
    unfold chooseK
    rw [if_neg (by omega), chooseK_many V l (k - 1) _ (by omega), chooseK_many V l k _ (by omega)]; rfl
theorem take_app (l m : List Nat) (n : Nat) : (l.take n ++ m).take n = (l ++ m).take n := by
  rw [List.take_append, List.take_append, List.take_take, Nat.min_self, List.length_take]
  congr 1
  by_cases h : n ≤ l.length
  · rw [Nat.min_eq_left h, Nat.sub_self, show n - l.length = 0 by omega]
  · rw [Nat.min_eq_right (by omega)]
theorem addK_take {L : List Nat} {c : Nat} (h : L.length ≤ 4097) : addK L c = (L ++ [c]).take 4097 := by
  unfold addK
  split
  · rw [List.take_of_length_le (by simp; omega)]
  · rw [List.take_append, show 4097 - L.length = 0 by omega, List.take_of_length_le (by omega)]; simp
theorem ints_tail {w : World} {b o n c : Nat} {x : Int} {l : List Int} (h : IntsAt w (.slice (some ⟨b, o, none⟩) n c) (x :: l)) (hc : 2 ≤ c) : IntsAt w (.slice (some ⟨b, o + 1, none⟩) (n - 1) (c - 1)) l := by
  obtain ⟨a, c', h1, h2, h3, h4⟩ := h
  injection h1 with e1 e2 e3
  subst e1 e2 e3
  simp at h2 h3
  refine ⟨some ⟨b, o + 1, none⟩, c - 1, by simp, ⟨by omega, fun h => by cases h⟩, by omega, fun i hi => ?_⟩
  obtain ⟨b', o', h5, h6⟩ := h4 (i + 1) (by simpa using hi)
  injection h5 with h5
  injection h5 with h7 h8
  subst h7 h8
  exact ⟨b, o + 1, rfl, by rw [show o + 1 + i = o + (i + 1) by omega, h6]; simp⟩
end Go.Proofs.Ytngbjdaaogbjmaa

/-
  Walks: the list of topdown: expand.
-/
namespace Go.Proofs.Ytngbjdaaogbjmaa
open Go.RowKit

theorem RowAt.made2 (w : World) (cs : Array Value) (e : TypeId) (o : Obj) : RowAt ((w.alloc (.cells cs e)).alloc o) w.heap.size e cs.toList := (RowAt.made w cs e).kept ((Kept.refl _).alloc o)
theorem RowAt.made3 (w : World) (cs : Array Value) (e : TypeId) (o p : Obj) : RowAt (((w.alloc (.cells cs e)).alloc o).alloc p) w.heap.size e cs.toList := (RowAt.made w cs e).kept (((Kept.refl _).alloc o).alloc p)
theorem exp_box {W w2 : World} {FB NB : Obj} {x0 x1 x2 : Value} {e : TypeId} (h : Kept (((W.alloc FB).alloc (.cells #[x0, x1, x2] e)).alloc NB) w2) : RowAt w2 (W.heap.size + 1) e [x0, x1, x2] := by
  have := (RowAt.made2 (W.alloc FB) #[x0, x1, x2] e NB).kept h
  simpa using this
end Go.Proofs.Ytngbjdaaogbjmaa

/-
  Walks: topdown.least.
-/
namespace Go.Proofs.Ytngbjdaaogbjmaa
open Go.RowKit

theorem rcells_one (c : Nat) : ∀ u ∈ rcells c, u.oneCell' = true := fun u hu => by simp [rcells] at hu; rcases hu with rfl | rfl | rfl <;> rfl
theorem flat_one (L : List Nat) : ∀ u ∈ L.flatMap rcells, u.oneCell' = true := fun u hu => by
  obtain ⟨c, _, h⟩ := List.mem_flatMap.1 hu
  exact rcells_one c u h
theorem addr_add (b o j : Nat) : (⟨b, o, none⟩ : Addr).add j = ⟨b, o + j, none⟩ := by unfold Addr.add; split <;> simp_all
def DecidesR (g : Nat) (lb : Array Value) (p : Nat → Bool) (w : World) : Prop :=
  ∀ (W : World) (x : Nat), Kept w W → RowLt 152 x → Calls Try.prog g (#[rowV x] ++ lb) W fun e W' => e = .returned (.bool (p x)) ∧ Kept W W'
theorem minN_take (l : List Nat) (k : Nat) (h : k < l.length) : minN (l.take (k + 1)) = keepN (minN (l.take k)) l[k] := by
  unfold minN
  rw [List.take_succ_eq_append_getElem h, List.foldl_append]; rfl
theorem range_row (w : World) (x0 x1 x2 : Value) (e : TypeId) : (w.alloc (.cells #[x0, x1, x2] e)).rangeAt w.heap.size 0 [x0, x1, x2] := by
  intro j v hj
  match j, hj with
  | 0, hj => simp at hj; subst hj; simp
  | 1, hj => simp at hj; subst hj; simp
  | 2, hj => simp at hj; subst hj; simp
end Go.Proofs.Ytngbjdaaogbjmaa

/-
  Plain: one round of the top-down search, whatever the order of the rows.
-/
namespace Go.Proofs.Ytngbjdaaogbjmaa

/-- Where the search stands: rows L in some order, steps done, what is still to come. -/
structure Stand (V T : Nat) (f : Fm) (L st : List Nat) (m : Nat) : Prop where
  le : m ≤ f.nodes.length
  lt : ∀ r ∈ L, RowLt (24 + m) r
  mkd : ∀ r ∈ L, Marked V (belowK V T f.nodes) r
  len : L.length ≤ 1024
  run : ∃ R : List Nat, L.Perm R ∧ topK V T f.nodes = (runK V f.nodes m R).map fun p => (p.1, st ++ p.2)
theorem Stand.start {V T : Nat} {f : Fm} (hok : Ok f V T) : Stand V T f [cond V T] [] f.nodes.length := by
  have hT := hok.tlt
  refine ⟨Nat.le_refl _, fun r hr => ?_, fun r hr => ?_, by simp, ⟨[cond V T], .refl _, ?_⟩⟩
  · simp at hr; subst hr; exact rowLt_cond (by omega) hok.v24
  · simp at hr; subst hr
    refine marked_cond (by omega) hok.v24 ?_
    unfold belowK
    refine belowGo_keep V f.nodes _ _ _ ?_
    rw [List.getD_eq_getElem?_getD, Int.toNat_natCast, List.getElem?_set_self (by simp; omega)]; rfl
  · unfold topK
    cases runK V f.nodes f.nodes.length [cond V T] with
    | none => rfl
    | some p => rfl
/-- No row has a node left. -/
theorem Stand.done {V T : Nat} {f : Fm} {L st : List Nat} {m : Nat} (h : Stand V T f L st m) (hn : ∀ c ∈ L, ∀ j, c.testBit (24 + j) = true → False) : ∃ R, topK V T f.nodes = some (R, st) ∧ L.Perm R := by
  obtain ⟨R, hp, hr⟩ := h.run
  refine ⟨R, ?_, hp⟩
  rw [hr, runK_skip V f.nodes 0 R m (Nat.zero_le _) fun j _ _ => ?_]
  · show some (R, st ++ []) = _
    rw [List.append_nil]
  · rw [List.any_eq_false]
    intro r hr hb
    exact hn r (hp.mem_iff.2 hr) j hb
/-- A node is expanded. -/
theorem Stand.at {V T : Nat} {f : Fm} {L st : List Nat} {m i : Nat} (h : Stand V T f L st m) (hi : ∃ c ∈ L, c.testBit (24 + i) = true) (hmax : ∀ c ∈ L, ∀ j, c.testBit (24 + j) = true → j ≤ i) :
    i < m ∧ (belowK V T f.nodes).getD (V + i) false = true ∧ ∃ R : List Nat, L.Perm R ∧ R.any (fun r => r.testBit (24 + i)) = true ∧ topK V T f.nodes = (runK V f.nodes (i + 1) R).map fun p => (p.1, st ++ p.2) := by
  obtain ⟨c, hc, hb⟩ := hi
  have him : i < m := by have := h.lt c hc _ hb; omega
  obtain ⟨R, hp, hr⟩ := h.run
  refine ⟨him, h.mkd c hc i hb, R, hp, List.any_eq_true.2 ⟨c, hp.mem_iff.1 hc, hb⟩, ?_⟩
  rw [hr, runK_skip V f.nodes (i + 1) R m (by omega) fun j h1 _ => ?_]
  rw [List.any_eq_false]
  intro r hr hb
  have := hmax r (hp.mem_iff.2 hr) j hb
  omega
theorem Stand.full {V T : Nat} {f : Fm} {L st : List Nat} {m i : Nat} (h : Stand V T f L st m) (hi : ∃ c ∈ L, c.testBit (24 + i) = true) (hmax : ∀ c ∈ L, ∀ j, c.testBit (24 + j) = true → j ≤ i)
    (hl : 4096 < (expK V (f.nodes.getD i noNd) i L).length) : topK V T f.nodes = none := by
  obtain ⟨_, _, R, hp, ha, hr⟩ := h.at hi hmax
  rw [hr]
  conv => lhs; unfold runK
  rw [if_pos ha, if_neg (by rw [← (expK_perm (V := V) (i := i) (x := f.nodes.getD i noNd) hp).length_eq]; omega)]; rfl
theorem Stand.many {V T : Nat} {f : Fm} {L M st : List Nat} {m i : Nat} (h : Stand V T f L st m) (hi : ∃ c ∈ L, c.testBit (24 + i) = true) (hmax : ∀ c ∈ L, ∀ j, c.testBit (24 + j) = true → j ≤ i)
    (hM : M.Perm (minK (expK V (f.nodes.getD i noNd) i L))) (hl : 1024 < M.length) : topK V T f.nodes = none := by
  obtain ⟨_, _, R, hp, ha, hr⟩ := h.at hi hmax
  have he := minK_perm (expK_perm (V := V) (i := i) (x := f.nodes.getD i noNd) hp)
  rw [hr]
  conv => lhs; unfold runK
  rw [if_pos ha]
  split
  · rw [if_neg (by rw [← he, ← hM.length_eq]; omega)]; rfl
  · rfl
theorem Stand.next {V T : Nat} {f : Fm} (hok : Ok f V T) {L M st : List Nat} {m i : Nat} (h : Stand V T f L st m) (hi : ∃ c ∈ L, c.testBit (24 + i) = true) (hmax : ∀ c ∈ L, ∀ j, c.testBit (24 + j) = true → j ≤ i)
    (hl4 : (expK V (f.nodes.getD i noNd) i L).length ≤ 4096) (hM : M.Perm (minK (expK V (f.nodes.getD i noNd) i L))) (hl : M.length ≤ 1024) : Stand V T f M (st ++ [M.length]) i := by
  obtain ⟨him, hmk, R, hp, ha, hr⟩ := h.at hi hmax
  have hle := h.le
  have hil : i < f.nodes.length := by omega
  have hnd : f.nodes.getD i noNd = f.nodes[i] := by simp [List.getD_eq_getElem?_getD, hil]
  have hmem : ∀ r ∈ M, r ∈ expK V (f.nodes.getD i noNd) i L := fun r hr => mem_minK (hM.mem_iff.1 hr)
  refine ⟨by omega, fun r hr => ?_, fun r hr => ?_, hl, ⟨minK (expK V (f.nodes.getD i noNd) i R), ?_, ?_⟩⟩
  · refine rowLt_expK hok.v24 (by rw [hnd]; exact hok.args i hil) (fun c hc j hj => ?_) r (hmem r hr)
    by_cases h24 : j < 24
    · omega
    · have := hmax c hc (j - 24) (by rw [show 24 + (j - 24) = j by omega]; exact hj)
      omega
  · exact marked_expK hok.v24 h.mkd (fun hk a ha => by rw [hnd] at ha; exact ⟨(hok.args i hil a ha).1, below_closed V T f hok i hil hk a ha⟩) r (hmem r hr)
  · rw [← minK_perm (expK_perm (V := V) (i := i) (x := f.nodes.getD i noNd) hp)]; exact hM
  · rw [hr]
    have he := minK_perm (expK_perm (V := V) (i := i) (x := f.nodes.getD i noNd) hp)
    conv => lhs; unfold runK
    rw [if_pos ha, if_pos (by rw [← (expK_perm (V := V) (i := i) (x := f.nodes.getD i noNd) hp).length_eq]; exact hl4), if_pos (by rw [← he, ← hM.length_eq]; exact hl), ← he, ← hM.length_eq]
    cases runK V f.nodes i (minK (expK V (f.nodes.getD i noNd) i L)) with
    | none => rfl
    | some p => show some _ = some _; simp
theorem expK_take (V : Nat) (x : Nd) (i : Nat) (L : List Nat) (k : Nat) (h : k < L.length) : expK V x i (L.take (k + 1)) = expK V x i (L.take k) ++ expR V x i L[k] := by
  unfold expK
  rw [List.take_succ_eq_append_getElem h, List.flatMap_append]; simp
end Go.Proofs.Ytngbjdaaogbjmaa

/-
  Walks: bottomup.Cuts.
-/
namespace Go.Proofs.Ytngbjdaaogbjmaa
open Go.RowKit

def cutsK (V T : Nat) (nodes : List Nd) : Option (List Nat) := (famsK V T nodes).map fun l => if T < V then [2 ^ T] else l.getD (T - V) []
end Go.Proofs.Ytngbjdaaogbjmaa

/-
  Walks: faultlinebase.Num, Ints, Rows.
-/
namespace Go.Proofs.Ytngbjdaaogbjmaa
open Go.RowKit

theorem as_errno (v : Value) (w : World) : (Instr.typeAssert (.iface 56 v) 29 56 true).run Try.prog w = .ok (.tuple #[v, .bool true]) w := by kernel_rfl
set_option maxRecDepth 100000 in
theorem num_eq (c : Nat) (w : World) (hc : c ≤ 9223372036854775807) : Calls Try.prog 14 #[errV c] w fun e w' => e = .returned (.int .i64 c) ∧ w = w' := by
  by_cases h : c = 0
  · subst h
    rw [errV_zero]
    go_enter Try.func14, Try.ntmps14
    go_wp2
    refine bodyPost_ret (v := .int .i64 0) ?_ rfl ⟨rfl, rfl⟩
    simp [results, Try.results14, go_sem]
  · rw [errV_pos h]
    clear h
    go_enter Try.func14, Try.ntmps14
    go_wp2
    rw [as_errno]
    go_wp2
    go_ret
    exact ⟨rfl, rfl⟩
theorem num_ok (c : Nat) (w : World) (hc : c ≤ 9223372036854775807) : Calls Try.prog 14 #[errV c] w fun e w' => e = .returned (.int .i64 c) ∧ Kept w w' :=
  (num_eq c w hc).mono fun _ _ ⟨h1, h2⟩ => ⟨h1, by rw [← h2]; exact Kept.refl _⟩

theorem ints_ne (a b : List Int) (va vb : Value) (w : World) (ha : IntsAt w va a) (hb : IntsAt w vb b) (h : a.length ≠ b.length) :
    Calls Try.prog 28 #[va, vb] w fun e w' => e = .returned (.bool false) ∧ Kept w w' := by
  obtain ⟨aa, ca, rfl, _, hla, hca⟩ := ha
  obtain ⟨ab, cb, rfl, _, hlb, hcb⟩ := hb
  have hne : ((a.length : Int) == (b.length : Int)) = false := by simpa using (by omega : (a.length : Int) ≠ b.length)
  clear h hca hcb
  go_enter Try.func28, Try.ntmps28
  go_wp2
  go_ret
  exact ⟨rfl, Kept.refl _⟩
set_option maxHeartbeats 2000000 in
theorem ints_at (a b : List Int) (va vb : Value) (w : World) (ha : IntsAt w va a) (hb : IntsAt w vb b) :
    Calls Try.prog 28 #[va, vb] w fun e w' => e = .returned (.bool (decide (a = b))) ∧ Kept w w' := by
  by_cases h : a.length = b.length
  case neg =>
    refine (ints_ne a b va vb w ha hb h).mono ?_
    rintro e w' ⟨rfl, h2⟩
    refine ⟨?_, h2⟩
    have : a ≠ b := fun e => h (by rw [e])
    simp [this]
  obtain ⟨aa, ca, rfl, _, hla, hca⟩ := ha
  obtain ⟨ab, cb, rfl, _, hlb, hcb⟩ := hb
  obtain ⟨n, hn⟩ : ∃ n, n = a.length := ⟨_, rfl⟩
  have hnb : n = b.length := by omega
  rw [← hnb, ← hn]
  have HA := Lib.hid hca
  have HB := Lib.hid hcb
  have Hn := Lib.hid hn
  have Hnb := Lib.hid hnb
  have hn9 : n ≤ 140737488355328 := by omega
  clear hca hcb h hn hnb hla hlb
  go_enter Try.func28, Try.ntmps28
  go_wp2
  go_loopw [5, 13] (fun _ i wr => ∃ k : Nat, k ≤ n ∧ i = .int .i64 k ∧ (∀ j, j < k → a[j]? = b[j]?) ∧ Kept w wr) (fun _ i _ => n - (intOf i).toNat)
  case atStart => exact ⟨0, Nat.zero_le _, rfl, by simp, Kept.refl _⟩
  case round =>
    obtain ⟨k, hk, rfl, hsame, hbel⟩ := hrel
    have HS := Lib.hid hsame
    clear hsame
    by_cases hlt : k < n
    · have hka : k < a.length := by have := Hn.out; omega
      have hkb : k < b.length := by have := Hnb.out; omega
      obtain ⟨ba, oa, rfl, c1⟩ := HA.out k hka
      obtain ⟨bb, ob, rfl, c2⟩ := HB.out k hkb
      have c1' := hbel.cell c1
      have c2' := hbel.cell c2
      obtain ⟨x, hx⟩ : ∃ x, x = a[k] := ⟨_, rfl⟩
      obtain ⟨y, hy⟩ : ∃ x, x = b[k] := ⟨_, rfl⟩
      rw [← hx] at c1 c1'
      rw [← hy] at c2 c2'
      have HX := Lib.hid hx
      have HY := Lib.hid hy
      have HKA := Lib.hid hka
      have HKB := Lib.hid hkb
      clear hx hy c1 c2
      by_cases hxy : x = y
      · have e1 : (x == y) = true := by simpa using hxy
        have e2 : (x != y) = false := by simpa using hxy
        have HXY := Lib.hid hxy
        clear hxy
        go_wp2
        go_quiet (fail)
        go_wp2
        go_roundw
        case rel =>
          refine ⟨k + 1, by omega, by simp, fun j hj => ?_, hbel.drewN _⟩
          by_cases e : j = k
          · subst e
            rw [List.getElem?_eq_getElem HKA.out, List.getElem?_eq_getElem HKB.out, ← HX.out, ← HY.out, HXY.out]
          · exact HS.out j (by omega)
        case measure => simp [intOf]; omega
      · have e1 : (x == y) = false := by simpa using hxy
        have e2 : (x != y) = true := by simpa using hxy
        have HXY := Lib.hid hxy
        clear hxy
        go_wp2
        go_quiet (fail)
        go_wp2
        go_ret
        refine ⟨?_, hbel.drewN _⟩
        have : a ≠ b := by
          intro e
          subst e
          exact HXY.out (HX.out.trans HY.out.symm)
        simp [this]
    · go_wp2
      go_ret
      refine ⟨?_, hbel⟩
      have hkn : k = n := by omega
      have : a = b := by
        apply List.ext_getElem?
        intro j
        by_cases hj : j < k
        · exact HS.out j hj
        · rw [List.getElem?_eq_none (by have := Hn.out; omega), List.getElem?_eq_none (by have := Hnb.out; omega)]
      simp [this]
end Go.Proofs.Ytngbjdaaogbjmaa

/-
  Walks: faultlinebase.Rows.
-/
namespace Go.Proofs.Ytngbjdaaogbjmaa
open Go.RowKit

end Go.Proofs.Ytngbjdaaogbjmaa

/-
  Walks: faultlinelaw31.Example.
-/
namespace Go.Proofs.Ytngbjdaaogbjmaa
open Go.RowKit

/-- The document's example. -/
def exN : List Nd := [⟨3, 0, [0, 1]⟩, ⟨3, 0, [0, 2]⟩, ⟨2, 0, [3, 4]⟩]
theorem alloc_cell {w : World} {cs : Array Value} {e : TypeId} {g : Nat} (hg : g = w.heap.size) {j : Nat} {u : Value} (h : cs[j]? = some u) : (w.alloc (.cells cs e)).cell? ⟨g, j, none⟩ = some u := by
  subst hg
  simp only [World.cell?, heap_alloc_new]
  exact h
theorem pair_at {W : World} {g : Nat} {x y : Int} (h0 : W.cell? ⟨g, 0, none⟩ = some (.int .i64 x)) (h1 : W.cell? ⟨g, 1, none⟩ = some (.int .i64 y)) : IntsAt W (.slice (some ⟨g, 0, none⟩) 2 2) [x, y] := by
  refine ⟨_, 2, rfl, ⟨Nat.le_refl _, fun h => by cases h⟩, by simp, fun i hi => ⟨g, 0, rfl, ?_⟩⟩
  match i, hi with
  | 0, _ => simpa using h0
  | 1, _ => simpa using h1
set_option maxRecDepth 100000 in
set_option maxHeartbeats 2000000 in
theorem example_ok (w : World) : Calls Try.prog 82 #[] w fun e w' => (∃ v, e = .returned (.agg #[.int .i64 3, v, .int .i64 5]) ∧ (∃ a n c, v = .slice a n c) ∧ NodesAt w' v exN) ∧ Kept w w' := by
  go_enter Try.func82, Try.ntmps82
  go_wp2
  generalize hW : World.alloc _ (.cells #[.int .i64 3, .int .i64 0, _, .int .i64 3, .int .i64 0, _, .int .i64 2, .int .i64 0, _] 106) = W
  have hk : Kept w W := by rw [← hW]; exact (((((Kept.refl w).alloc _).alloc _).alloc _).alloc _).alloc _
  have hs : ∀ (j : Nat) (u : Value), (#[.int .i64 3, .int .i64 0, .slice (some ⟨w.heap.size + 1, 0, none⟩) 2 2, .int .i64 3, .int .i64 0, .slice (some ⟨w.heap.size + 1 + 1, 0, none⟩) 2 2, .int .i64 2, .int .i64 0, .slice (some ⟨w.heap.size + 1 + 1 + 1, 0, none⟩) 2 2] : Array Value)[j]? = some u → W.cell? ⟨w.heap.size + 1 + 1 + 1 + 1, j, none⟩ = some u := by
    intro j u h
    rw [← hW]
    exact alloc_cell (by simp [World.size_alloc]) h
  have h1 : IntsAt W (.slice (some ⟨w.heap.size + 1, 0, none⟩) 2 2) [0, 1] := pair_at (by rw [← hW]; exact Kept.cell ((((Kept.refl _).alloc _).alloc _).alloc _) (alloc_cell (by simp [World.size_alloc]) rfl)) (by rw [← hW]; exact Kept.cell ((((Kept.refl _).alloc _).alloc _).alloc _) (alloc_cell (by simp [World.size_alloc]) rfl))
  have h2 : IntsAt W (.slice (some ⟨w.heap.size + 1 + 1, 0, none⟩) 2 2) [0, 2] := pair_at (by rw [← hW]; exact Kept.cell (((Kept.refl _).alloc _).alloc _) (alloc_cell (by simp [World.size_alloc]) rfl)) (by rw [← hW]; exact Kept.cell (((Kept.refl _).alloc _).alloc _) (alloc_cell (by simp [World.size_alloc]) rfl))
  have h3 : IntsAt W (.slice (some ⟨w.heap.size + 1 + 1 + 1, 0, none⟩) 2 2) [3, 4] := pair_at (by rw [← hW]; exact Kept.cell ((Kept.refl _).alloc _) (alloc_cell (by simp [World.size_alloc]) rfl)) (by rw [← hW]; exact Kept.cell ((Kept.refl _).alloc _) (alloc_cell (by simp [World.size_alloc]) rfl))
  have r0 : W.cell? ⟨w.heap.size, 0, none⟩ = some (.int .i64 3) := by rw [← hW]; exact Kept.cell (((((Kept.refl _).alloc _).alloc _).alloc _).alloc _) (alloc_cell rfl rfl)
  have r1 : W.cell? ⟨w.heap.size, 1, none⟩ = some (.slice (some ⟨w.heap.size + 1 + 1 + 1 + 1, 0, none⟩) 3 3) := by rw [← hW]; exact Kept.cell (((((Kept.refl _).alloc _).alloc _).alloc _).alloc _) (alloc_cell rfl rfl)
  have r2 : W.cell? ⟨w.heap.size, 2, none⟩ = some (.int .i64 5) := by rw [← hW]; exact Kept.cell (((((Kept.refl _).alloc _).alloc _).alloc _).alloc _) (alloc_cell rfl rfl)
  refine bodyPost_ret (v := .agg #[.int .i64 3, .slice (some ⟨w.heap.size + 1 + 1 + 1 + 1, 0, none⟩) 3 3, .int .i64 5]) (by simp [results, Try.results82, go_sem, r0, r1, r2]) rfl ?_
  refine ⟨⟨_, rfl, ⟨_, _, _, rfl⟩, _, 3, rfl, ⟨Nat.le_refl _, fun h => by cases h⟩, by decide, fun i hi => ⟨_, 0, rfl, ?_⟩⟩, hk⟩
  match i, hi with
  | 0, _ => exact ⟨_, hs 0 _ rfl, hs 1 _ rfl, hs 2 _ rfl, h1⟩
  | 1, _ => exact ⟨_, hs 3 _ rfl, hs 4 _ rfl, hs 5 _ rfl, h2⟩
  | 2, _ => exact ⟨_, hs 6 _ rfl, hs 7 _ rfl, hs 8 _ rfl, h3⟩
end Go.Proofs.Ytngbjdaaogbjmaa

/-
  Plain: the example's families.
-/
namespace Go.Proofs.Ytngbjdaaogbjmaa
open Go.RowKit

def exF : Fm := ⟨3, exN, 5⟩
theorem chk_ex : chkF exF = 0 := by decide
theorem syn_ex : synK 3 5 exF = true := by decide
theorem ok_ex : Ok exF 3 5 := by
  obtain ⟨V, T, h⟩ := ok_of exF chk_ex
  have h1 : (3 : Int) = (V : Int) := h.vars
  have h2 : (5 : Int) = (T : Int) := h.top
  obtain rfl : V = 3 := by omega
  obtain rfl : T = 5 := by omega
  exact h
theorem pcs : pc 0 = 0 ∧ pc 1 = 1 ∧ pc 2 = 1 ∧ pc 3 = 2 ∧ pc 4 = 1 ∧ pc 5 = 2 ∧ pc 6 = 2 ∧ pc 7 = 3 := by
  have h0 : pc 0 = 0 := by unfold pc; simp
  have h1 : pc 1 = 1 := by unfold pc; simp [h0]
  have h2 : pc 2 = 1 := by unfold pc; simp [h1]
  have h3 : pc 3 = 2 := by unfold pc; simp [h1]
  have h4 : pc 4 = 1 := by unfold pc; simp [h2]
  have h5 : pc 5 = 2 := by unfold pc; simp [h2]
  have h6 : pc 6 = 2 := by unfold pc; simp [h3]
  have h7 : pc 7 = 3 := by unfold pc; simp [h3]
  exact ⟨h0, h1, h2, h3, h4, h5, h6, h7⟩
theorem below_ex : belowK 3 5 exN = [true, true, true, true, true, true] := by decide
set_option linter.unusedSimpArgs false in
theorem fams_ex : famsK 3 5 exN = some [[1, 2], [1, 4], [1, 6]] := by
  obtain ⟨h0, h1, h2, h3, h4, h5, h6, h7⟩ := pcs
  unfold famsK
  rw [below_ex]
  simp +decide [addU, rowU, famsUp, famStep, exN, nodeK, foldK, plusK, productK, minK, sortK, insK, ltK, minN, keepN, allU, famArg, h0, h1, h2, h3, h4, h5, h6, h7]
end Go.Proofs.Ytngbjdaaogbjmaa

/-
  Walks: faultlinelaw32.awake.
-/
namespace Go.Proofs.Ytngbjdaaogbjmaa
open Go.RowKit

theorem ofN_rows {w : World} {v : Value} {l : List (List Nat)} (h : FamsAt w v l) : RowsAt IntsAt w v (l.map ofN) := by
  obtain ⟨a, c, h1, h2, h3, h4⟩ := h
  refine ⟨a, c, by simpa using h1, by simpa using h2, by simpa using h3, fun i hi => ?_⟩
  obtain ⟨b, o, u, h5, h6, h7⟩ := h4 i (by simpa using hi)
  exact ⟨b, o, u, h5, h6, by simpa using h7.1⟩
theorem row_at {w : World} {g : Nat} {us : List Value} {xs : List (List Int)} (hl : us.length = xs.length) (hn : xs.length ≤ 128) (hc : ∀ i (h : i < us.length) (h' : i < xs.length), w.cell? ⟨g, i, none⟩ = some us[i] ∧ IntsAt w us[i] xs[i]) : RowsAt IntsAt w (.slice (some ⟨g, 0, none⟩) xs.length xs.length) xs :=
  ⟨_, _, rfl, ⟨Nat.le_refl _, fun h => by cases h⟩, by omega, fun i hi => ⟨g, 0, us[i]'(by omega), rfl, by simpa using (hc i (by omega) hi).1, (hc i (by omega) hi).2⟩⟩
theorem lit_at (w : World) : RowsAt IntsAt ((((w.alloc (.cells #[.int .i64 1, .int .i64 2] 3)).alloc (.cells #[.int .i64 1, .int .i64 4] 3)).alloc (.cells #[.int .i64 1, .int .i64 6] 3)).alloc (.cells #[.slice (some ⟨w.heap.size, 0, none⟩) 2 2, .slice (some ⟨w.heap.size + 1, 0, none⟩) 2 2, .slice (some ⟨w.heap.size + 1 + 1, 0, none⟩) 2 2] 25)) (.slice (some ⟨w.heap.size + 1 + 1 + 1, 0, none⟩) 3 3) [[1, 2], [1, 4], [1, 6]] := by
  generalize hW : World.alloc _ (.cells #[_, _, _] 25) = W
  have hs : ∀ (j : Nat) (u : Value), (#[.slice (some ⟨w.heap.size, 0, none⟩) 2 2, .slice (some ⟨w.heap.size + 1, 0, none⟩) 2 2, .slice (some ⟨w.heap.size + 1 + 1, 0, none⟩) 2 2] : Array Value)[j]? = some u → W.cell? ⟨w.heap.size + 1 + 1 + 1, j, none⟩ = some u := by
    intro j u h
    rw [← hW]
    exact alloc_cell (by simp [World.size_alloc]) h
  have h1 : IntsAt W (.slice (some ⟨w.heap.size, 0, none⟩) 2 2) [1, 2] := pair_at (by rw [← hW]; exact Kept.cell ((((Kept.refl _).alloc _).alloc _).alloc _) (alloc_cell rfl rfl)) (by rw [← hW]; exact Kept.cell ((((Kept.refl _).alloc _).alloc _).alloc _) (alloc_cell rfl rfl))
  have h2 : IntsAt W (.slice (some ⟨w.heap.size + 1, 0, none⟩) 2 2) [1, 4] := pair_at (by rw [← hW]; exact Kept.cell (((Kept.refl _).alloc _).alloc _) (alloc_cell (by simp [World.size_alloc]) rfl)) (by rw [← hW]; exact Kept.cell (((Kept.refl _).alloc _).alloc _) (alloc_cell (by simp [World.size_alloc]) rfl))
  have h3 : IntsAt W (.slice (some ⟨w.heap.size + 1 + 1, 0, none⟩) 2 2) [1, 6] := pair_at (by rw [← hW]; exact Kept.cell ((Kept.refl _).alloc _) (alloc_cell (by simp [World.size_alloc]) rfl)) (by rw [← hW]; exact Kept.cell ((Kept.refl _).alloc _) (alloc_cell (by simp [World.size_alloc]) rfl))
  refine ⟨_, 3, rfl, ⟨Nat.le_refl _, fun h => by cases h⟩, by simp, fun i hi => ⟨w.heap.size + 1 + 1 + 1, 0, ?_⟩⟩
  match i, hi with
  | 0, _ => exact ⟨_, rfl, hs 0 _ rfl, h1⟩
  | 1, _ => exact ⟨_, rfl, hs 1 _ rfl, h2⟩
  | 2, _ => exact ⟨_, rfl, hs 2 _ rfl, h3⟩
theorem ints_true {l : List Int} (va vb : Value) (w : World) (ha : IntsAt w va l) (hb : IntsAt w vb l) : Calls Try.prog 28 #[va, vb] w fun e w' => e = .returned (.bool true) ∧ Kept w w' := by
  have h := ints_at l l va vb w ha hb
  rw [decide_eq_true rfl] at h
  exact h
theorem RowsAt.keptI {w w' : World} {v : Value} {l : List (List Int)} (h : RowsAt IntsAt w v l) (hk : Kept w w') : RowsAt IntsAt w' v l := RowsAt.kept (fun _ _ _ _ h k => h.kept k) h hk
theorem pair_new (w : World) (x y : Int) : IntsAt (w.alloc (.cells #[.int .i64 x, .int .i64 y] 3)) (.slice (some ⟨w.heap.size, 0, none⟩) 2 2) [x, y] := pair_at (alloc_cell rfl rfl) (alloc_cell rfl rfl)
end Go.Proofs.Ytngbjdaaogbjmaa

/-
  Walks: faultlinebase.Clip, faultlinelaw31.Heavy.
-/
namespace Go.Proofs.Ytngbjdaaogbjmaa
open Go.RowKit

theorem clip_any (k : Int) (w : World) : Calls Try.prog 83 #[.int .i64 k, .int .i64 1, .int .i64 16] w fun e w' => (∃ z, e = .returned (.int .i64 z)) ∧ Kept w w' := by
  go_enter Try.func83, Try.ntmps83
  go_wp2
  all_goals (go_ret; exact ⟨⟨_, rfl⟩, Kept.refl _⟩)
set_option maxRecDepth 100000 in
set_option maxHeartbeats 2000000 in
theorem heavy_any (v : Value) (f : Fm) (w : World) (hv : NodesAt w v f.nodes) :
    Calls Try.prog 44 #[fmV v f] w fun e w' => (∃ b, e = .returned (.bool b)) ∧ Kept w w' := by
  obtain ⟨a, c, rfl, _, hl, hx⟩ := hv
  obtain ⟨n, hn⟩ : ∃ n, n = f.nodes.length := ⟨_, rfl⟩
  rw [← hn] at hl ⊢
  obtain ⟨vars, nodes, top⟩ := f
  have HX := Lib.hid hx
  have HN := Lib.hid hn
  clear hx hn
  show Calls _ _ #[.agg #[.int .i64 vars, .slice a n c, .int .i64 top]] _ _
  go_enter Try.func44, Try.ntmps44
  go_wp2
  all_goals first
    | (go_ret; exact ⟨by simp, (Kept.refl _).alloc _⟩)
    | skip
  all_goals
    go_loopw [3, 4, 36] (fun p q i wr => ∃ (k : Nat) (x y : Int), k ≤ n ∧ i = .int .i64 k ∧ p = .int .i64 x ∧ q = .int .i64 y ∧ Kept w wr) (fun _ _ i _ => n - (intOf i).toNat)
    case atStart => exact ⟨0, 0, 0, Nat.zero_le _, rfl, rfl, rfl, (Kept.refl _).alloc _⟩
    case round =>
      obtain ⟨k, x, y, hk, rfl, rfl, rfl, hK⟩ := hrel
      by_cases hlt : k < n
      · obtain ⟨b, o, rfl, u, h1, h2, h3, h4⟩ := HX.out k (by have := HN.out; omega)
        obtain ⟨ax, cx, rfl, _, hlx, hcx⟩ := h4
        have hrange := Lib.hid (node_range (hK.cell h1) (hK.cell h2) (hK.cell h3))
        clear hcx h1 h2 h3
        generalize nodes[k].kind = kd at hrange
        generalize nodes[k].k = kk at hrange
        generalize nodes[k].args.length = na at hrange hlx
        by_cases hv4 : kd = 4
        · subst hv4
          go_wp2_with (with_reducible refine wpList_load_mid rfl 106 _ rfl b (o + k * 3) rfl _ _ hrange.out Try.underlying106 rfl (by kernel_rfl) ?_)
          have d1 : (wr.alloc (.cells #[.int .i64 4, .int .i64 kk, .slice ax na cx] 106)).cell? ⟨wr.heap.size, 1, none⟩ = some (.int .i64 kk) := by simp
          have d2 : (wr.alloc (.cells #[.int .i64 4, .int .i64 kk, .slice ax na cx] 106)).cell? ⟨wr.heap.size, 2, none⟩ = some (.slice ax na cx) := by simp
          go_region_held3 (fun w' => w'.cell? ⟨wr.heap.size, 1, none⟩ = some (.int .i64 kk) ∧ w'.cell? ⟨wr.heap.size, 2, none⟩ = some (.slice ax na cx))
            (first | go_keep | exact ⟨hk5.cell d1, hk5.cell d2⟩)
            (first | (go_at_call 83; refine (clip_any kk _).mono ?_; rintro e w5 ⟨⟨z, rfl⟩, hk5⟩))
          go_wp2
          go_roundw
          case rel => exact ⟨k + 1, _, _, by omega, by simp, rfl, rfl, (hK.alloc _).trans ((Kept.refl _).drew.trans hk5)⟩
          case measure => simp [intOf]; omega
        · have e4 : (kd == 4) = false := by simpa using hv4
          go_wp2_with (with_reducible refine wpList_load_mid rfl 106 _ rfl b (o + k * 3) rfl _ _ hrange.out Try.underlying106 rfl (by kernel_rfl) ?_)
          go_roundw
          case rel => exact ⟨k + 1, _, _, by omega, by simp, rfl, rfl, hK.alloc _⟩
          case measure => simp [intOf]; omega
      · go_wp2
        all_goals (try go_quiet (fail))
        all_goals (try go_wp2)
        all_goals (go_ret; first | exact ⟨⟨_, rfl⟩, hK⟩ | exact ⟨.inl rfl, hK⟩ | exact ⟨.inr rfl, hK⟩)
end Go.Proofs.Ytngbjdaaogbjmaa

/-
  The frame of the laws over a formula: an argument read as data is a formula in memory; the law's answer makes its row.
-/
namespace Go.Proofs.Ytngbjdaaogbjmaa
open Go.RowKit Go.ChangeShapes Go.WideShapes Go.ChangeAt Go.Joins Go.Deep

theorem ownK : ownKnob Try.prog.godebug = none := by kernel_rfl
theorem laidOutK : laidOutB Try.prog = true := by kernel_rfl
theorem cells_fm : Try.prog.cellsOf 64 = 3 := by kernel_rfl
theorem cells_node : Try.prog.cellsOf 106 = 3 := by kernel_rfl
theorem cells_int : Try.prog.cellsOf 3 = 1 := by kernel_rfl
theorem cells_ints : Try.prog.cellsOf 25 = 1 := by kernel_rfl
theorem bytes_node : Try.prog.bytesOf 106 = 40 := by kernel_rfl
theorem bytes_int : Try.prog.bytesOf 3 = 8 := by kernel_rfl

theorem weightsAll_mem {H : Type} {P : Program} {e : TypeId} : ∀ {l : List (DataW H)} {d : DataW H}, d ∈ l → ∀ n ∈ d.weights P e, n ∈ DataW.weightsAll P e l
  | d' :: r, d, hd, n, hn => by
    simp only [DataW.weightsAll, List.mem_append]
    rcases List.mem_cons.1 hd with rfl | h
    · exact .inl hn
    · exact .inr (weightsAll_mem h n hn)

theorem addP (b o j : Nat) : (⟨b, o, none⟩ : Addr).add j = ⟨b, o + j, none⟩ := by unfold Addr.add; split <;> simp_all
section
variable {H : Type} {enc : TypeId × Value → H} {W : World} {base : Nat}
/-- Ints of a slice, read. -/
theorem ints_open {fuel : Nat} {cs : List Value} {x : DataW H × List MemPlace} (hb : ∀ n ∈ x.1.weights Try.prog 25, n ≤ reachBytes)
    (h : DataW.trod enc Try.prog W base (fun _ => true) true fuel 25 cs = some x) : ∃ u xs, cs = [u] ∧ IntsAt W u xs ∧ ∀ z ∈ xs, -9223372036854775808 ≤ z ∧ z ≤ 9223372036854775807 := by
  rcases open_ints Try.underlying25 Try.underlying3 cells_int h with ⟨rfl, rfl⟩ | ⟨a, len, cap, zs, rfl, _, hl, hm, hz, rfl, hcell, hwz⟩
  · exact ⟨_, [], rfl, IntsAt.nil _, by simp⟩
  · simp only [if_true] at hz
    have hbb := hb ((zs.take len).length * 8 + (zs.drop len).length * 8) (by
      simp only [DataW.weights, Try.underlying25, bytes_int, List.mem_cons]
      exact .inl (by simp [lits]; omega))
    simp [reachBytes] at hbb
    refine ⟨_, zs.take len, rfl, ⟨some a, cap, by simp; omega, ⟨by simp; omega, fun h => by cases h⟩, by simp; omega, fun i hi => ?_⟩, fun z hz => bounds_i64 (hwz z (List.mem_of_mem_take hz))⟩
    simp only [List.length_take] at hi
    have hc := hcell i (by omega)
    obtain ⟨b, o, spot⟩ := a
    have hspot : spot = none := World.cell?_spot (hcell 0 (by omega))
    subst hspot
    refine ⟨b, o, rfl, ?_⟩
    have e : (zs.take len)[i]'(by simp; omega) = zs.getD i 0 := by simp [List.getD_eq_getElem?_getD, show i < zs.length by omega]
    rw [e, ← hc]
    congr 1
    by_cases h0 : i = 0
    · subst h0; rfl
    · simp [Addr.add, h0]
instance : Inhabited Nd := ⟨⟨0, 0, []⟩⟩
/-- All numbers of a node are ints of 64 bits. -/
def NdOk (x : Nd) : Prop := (-9223372036854775808 ≤ x.kind ∧ x.kind ≤ 9223372036854775807) ∧ (-9223372036854775808 ≤ x.k ∧ x.k ≤ 9223372036854775807) ∧ ∀ z ∈ x.args, -9223372036854775808 ≤ z ∧ z ≤ 9223372036854775807
def FmOk (f : Fm) : Prop := (-9223372036854775808 ≤ f.vars ∧ f.vars ≤ 9223372036854775807) ∧ (-9223372036854775808 ≤ f.top ∧ f.top ≤ 9223372036854775807) ∧ ∀ x ∈ f.nodes, NdOk x
set_option maxRecDepth 100000 in
theorem nodes_open {fuel : Nat} {cs : List Value} {x : DataW H × List MemPlace} (hb : ∀ n ∈ x.1.weights Try.prog 62, n ≤ reachBytes)
    (h : DataW.trod enc Try.prog W base (fun _ => true) true fuel 62 cs = some x) : ∃ u xs, cs = [u] ∧ NodesAt W u xs ∧ ∀ y ∈ xs, NdOk y := by
  rcases open_slice Try.underlying62 h with ⟨rfl, rfl⟩ | ⟨a, len, cap, m, n, D, Pl, rfl, _, hl, hm, hmm, rfl, hx⟩
  · exact ⟨_, [], rfl, ⟨none, 0, rfl, ⟨by simp, fun _ => rfl⟩, by simp, fun i h => by simp at h⟩, by simp⟩
  · simp only [if_true] at hmm
    have hmc := hmm.symm
    subst hmc
    have hbb := hb (cap * 40) (by
      simp only [DataW.weights, Try.underlying62, bytes_node, List.mem_cons]
      refine .inl ?_
      simp; omega)
    simp [reachBytes] at hbb
    have each : ∀ i, i < len → ∃ y : Nd, NdOk y ∧ ∃ b o, a = ⟨b, o, none⟩ ∧ NodeAt W b (o + i * 3) y := by
      intro i hi
      obtain ⟨cs', hc, ht⟩ := hx i (by omega)
      rw [cells_node] at hc
      obtain ⟨_, hcl, hat⟩ := World.cells?_some hc
      obtain ⟨y0, y1, y2, n', hy, hlen, g0, g1, g2⟩ := trod_struct3 Try.underlying106 ht
      match cs', hcl with
      | [c0, c1, c2], _ =>
        have q0 := hat 0 (by omega)
        have q1 := hat 1 (by omega)
        have q2 := hat 2 (by omega)
        simp only [List.getElem?_cons_zero, List.getElem?_cons_succ] at q0 q1 q2
        have k0 : Try.prog.cellsOf 3 = 1 := cells_int
        have k2 : Try.prog.cellsOf 25 = 1 := cells_ints
        simp only [k0, k2, List.drop_zero, List.drop_succ_cons, List.take_succ_cons, List.take_zero] at g0 g1 g2
        obtain ⟨kd, e0, hy0, w0⟩ := DataW.trod_int Try.underlying3 g0
        obtain ⟨kk, e1, hy1, w1⟩ := DataW.trod_int Try.underlying3 g1
        simp at e0 e1
        subst e0 e1
        have hdi : D i = .agg [y0.1, y1.1, y2.1] := by simpa using congrArg Prod.fst hy
        obtain ⟨u, xs, e2, hu, hwu⟩ := ints_open (fun n hn => hb n (by
          simp only [DataW.weights, Try.underlying62, List.mem_cons, List.mem_append]
          refine .inr (.inl (weightsAll_mem (d := D i) (List.mem_map.2 ⟨i, by simpa using hi, rfl⟩) n ?_))
          rw [hdi]
          simp only [DataW.weights, Try.underlying106]
          simp only [List.map_cons, DataW.weightsEach, List.mem_append]
          exact .inr (.inr (.inl hn)))) g2
        simp at e2
        subst e2
        obtain ⟨b, o, spot⟩ := a
        have hspot : spot = none := by
          obtain ⟨cs0, hc0, _⟩ := hx 0 (by omega)
          rw [cells_node] at hc0
          obtain ⟨_, hcl0, hat0⟩ := World.cells?_some hc0
          have h1 := hat0 0 (by omega)
          rw [List.getElem?_eq_getElem (by omega)] at h1
          exact World.cell?_spot (a := ⟨b, o, spot⟩) (by simpa [Addr.add] using h1)
        subst hspot
        refine ⟨⟨kd, kk, xs⟩, ⟨bounds_i64 w0, bounds_i64 w1, hwu⟩, b, o, rfl, c2, ?_, ?_, ?_, hu⟩
        · rw [← q0, addP, addP]; rfl
        · rw [← q1, addP, addP]
        · rw [← q2, addP, addP]
    obtain ⟨g, hg⟩ := choose_lt each
    refine ⟨_, (List.range len).map g, rfl, ⟨some a, cap, by simp, ⟨by simp; omega, fun h => by cases h⟩, by simp; omega, fun i hi => ?_⟩, fun y hy => ?_⟩
    · simp only [List.length_map, List.length_range] at hi
      obtain ⟨_, b, o, rfl, h1⟩ := hg i hi
      exact ⟨b, o, rfl, by simpa using h1⟩
    · obtain ⟨i, hi, rfl⟩ := List.mem_map.1 hy
      exact (hg i (by simpa using hi)).1
set_option maxRecDepth 100000 in
/-- A formula that came in. -/
theorem fm_open {v : Value} {d : DataW H} {p : List MemPlace} (hv : Value.okWide Try.prog W .any base 64 v) (hb : ∀ n ∈ d.weights Try.prog 64, n ≤ reachBytes)
    (h : DataW.Trod enc Try.prog W 0 (fun _ => true) true 64 v d p) : ∃ u f, v = fmV u f ∧ NodesAt W u f.nodes ∧ FmOk f := by
  obtain ⟨v0, v1, v2, y0, y1, y2, n, rfl, hd, _, t0, t1, t2⟩ := open_agg3 Try.underlying64 (by kernel_rfl) cells_fm hv h
  obtain ⟨vars, e0, _, w0⟩ := DataW.trod_int Try.underlying3 t0
  obtain ⟨top, e2, _, w2⟩ := DataW.trod_int Try.underlying3 t2
  simp at e0 e2
  subst e0 e2
  obtain ⟨u, xs, e1, hu, hwu⟩ := nodes_open (fun n hn => hb n (by
    rw [hd]
    simp only [DataW.weights, Try.underlying64]
    simp only [List.map_cons, DataW.weightsEach, List.mem_append]
    exact .inr (.inl hn))) t1
  simp at e1
  subst e1
  exact ⟨v1, ⟨vars, xs, top⟩, rfl, hu, bounds_i64 w0, bounds_i64 w2, hwu⟩
end
set_option maxRecDepth 100000 in
/-- A law of one formula: from its walk to its row's step. -/
theorem lift1 {s : ChangeSpec} (F : FuncId) (fn : Func) (hs1 : s.vars = []) (hs2 : ∀ (H : Type) (d : DataW H), s.fn H [d] = { results := [.lit (.bool true)], args := [d] })
    (hp : fn.params = #[64]) (hr : fn.resultTypes = #[4])
    (walk : ∀ (W : World) (u : Value) (f : Fm), NodesAt W u f.nodes → FmOk f → Calls Try.prog F #[fmV u f] W fun e w' => e = .returned (.bool true) ∧ Kept W w')
    {H : Type} {enc : TypeId × Value → H} (W : World) (base : Nat) (args : Array Value) (ds gs : List (DataW H)) (before : List MemPlace)
    (hval : ∀ (j : Nat) t v, fn.params[j]? = some t → args[j]? = some v → Value.okWide Try.prog W .any base t v)
    (hW : DataW.Whole enc Try.prog fn.params.toList s.vars false W args.toList ds gs before)
    (hsz : (DataW.weightsEach Try.prog (fn.params.toList ++ s.plain.varTypes Try.prog) (ds ++ gs)).all (· ≤ reachBytes) = true) :
    Calls Try.prog F args W fun e W' => ∃ v, e = .returned v ∧ s.post enc Try.prog fn false true false false W args v W' := by
  have hW' := hW
  obtain ⟨p, q, hA, hV, rfl, hfz, _⟩ := hW
  rw [hs1] at hV
  obtain ⟨rfl, rfl⟩ := trodVars_none hV
  rw [hp] at hA hval hsz
  obtain ⟨v0, d0, rfl, rfl, h0⟩ := trodAll_one hA
  have h0k := h0
  obtain ⟨u, f, rfl, hn, hok⟩ := fm_open (hval 0 _ _ rfl rfl) (fun n hn => by
    have := List.all_eq_true.1 hsz n (DataW.weights_mem_each (j := 0) rfl rfl n hn)
    simpa using this) h0
  have hlt : ∀ x ∈ p, x.block < W.heap.size := fun x hx => hW'.lt x (by simp [hx])
  refine (walk W u f hn hok).mono fun e W' ⟨he, hk⟩ => ?_
  subst he
  refine ⟨_, rfl, [d0], [], p ++ [], [], p, [], hW', ?_, ?_, ?_, Below.frame hk _, fun h => by cases h⟩
  · rw [hr]
    simp only [List.append_nil, hs2]
    exact trodAll_mk1 (shut_bool Try.underlying4 _)
  · rw [hp]
    simp only [List.append_nil, hs2]
    exact trodAll_mk1 (Below.trod laidOutK (by kernel_rfl) (of_decide_eq_true (by kernel_rfl)) h0k hk hlt)
  · rw [hs1]
    simp only [List.append_nil, hs2]
    rfl
end Go.Proofs.Ytngbjdaaogbjmaa

/-
  What Families and Cuts answer, by cases; the formula in its block.
-/
namespace Go.Proofs.Ytngbjdaaogbjmaa
open Go.RowKit

theorem fm_range {w w1 : World} {x y z : Value} {e : TypeId} (hk : Kept (w.alloc (.cells #[x, y, z] e)) w1) : w1.rangeAt w.heap.size 0 [x, y, z] := by
  intro j v hj
  match j, hj with
  | 0, hj => simp at hj; subst hj; exact hk.cell (p := ⟨w.heap.size, 0, none⟩) (by simp)
  | 1, hj => simp at hj; subst hj; exact hk.cell (p := ⟨w.heap.size, 1, none⟩) (by simp)
  | 2, hj => simp at hj; subst hj; exact hk.cell (p := ⟨w.heap.size, 2, none⟩) (by simp)
theorem fm_cells {w w1 : World} {x y z : Value} {e : TypeId} (hk : Kept (w.alloc (.cells #[x, y, z] e)) w1) : w1.cell? ⟨w.heap.size, 0, none⟩ = some x ∧ w1.cell? ⟨w.heap.size, 1, none⟩ = some y ∧ w1.cell? ⟨w.heap.size, 2, none⟩ = some z :=
  ⟨hk.cell (p := ⟨w.heap.size, 0, none⟩) (by simp), hk.cell (p := ⟨w.heap.size, 1, none⟩) (by simp), hk.cell (p := ⟨w.heap.size, 2, none⟩) (by simp)⟩
end Go.Proofs.Ytngbjdaaogbjmaa

/-
  Walks: topdown.run.
-/
namespace Go.Proofs.Ytngbjdaaogbjmaa
open Go.RowKit

theorem node_read {w : World} {v : Value} {nodes : List Nd} (h : NodesAt w v nodes) (i : Nat) (hi : i < nodes.length) :
    ∃ b o n c ua un uc, v = .slice (some ⟨b, o, none⟩) n c ∧ n = nodes.length ∧ ∀ W, Kept w W → W.rangeAt b (o + i * 3) [.int .i64 nodes[i].kind, .int .i64 nodes[i].k, .slice ua un uc] ∧ IntsAt W (.slice ua un uc) nodes[i].args := by
  obtain ⟨a, c, h1, _, _, h4⟩ := h
  obtain ⟨b, o, h5, u, e0, e1, e2, e3⟩ := h4 i hi
  obtain ⟨ua, un, uc, rfl⟩ := e3.shape
  exact ⟨b, o, _, c, ua, un, uc, by rw [h1, h5], rfl, fun W hk => ⟨node_range (hk.cell e0) (hk.cell e1) (hk.cell e2), e3.kept hk⟩⟩
end Go.Proofs.Ytngbjdaaogbjmaa

/-
  Walks: topdown.run on well-formed formulas.
-/
namespace Go.Proofs.Ytngbjdaaogbjmaa
open Go.RowKit

theorem OwnInts.own_lt {w : World} {B : Nat} {v : Value} {xs : List Int} (h : OwnInts w B v xs) {g : Nat} (hg : v.ownBlock = some g) : g < w.heap.size := (h.1.lt g hg).2
theorem RwsAt.len {w : World} {v : Value} {L : List Nat} (h : RwsAt w v L) : L.length ≤ 10000 := by obtain ⟨_, _, _, _, h, _⟩ := h; exact h
theorem RwsAt.lt {w : World} {v : Value} {L : List Nat} (h : RwsAt w v L) : ∀ c ∈ L, RowLt 152 c := by obtain ⟨_, _, _, _, _, h, _⟩ := h; exact h
theorem RwsAt.get {w : World} {a : Option Addr} {n c : Nat} {L : List Nat} (h : RwsAt w (.slice a n c) L) (i : Nat) (hi : i < L.length) : ∃ b o, a = some ⟨b, o, none⟩ ∧ w.rangeAt b (o + i * 3) (rcells L[i]) := by
  obtain ⟨a', c', h1, _, _, _, h5⟩ := h
  injection h1 with h1 h2 h3
  subst h1
  exact h5 i hi
/-- The rows' cells while the list is filled. -/
theorem frm_kept {gl : Nat} {v v' : Value} {w0 w w' : World} (hk : Kept w0 w) (h : Frm gl v v' w w') (h1 : w0.heap.size ≤ gl) (h2 : v.ownBlock = none) : Kept w0 w' := by
  refine ⟨h.os.trans hk.os, h.tape.trans hk.tape, h.output.trans hk.output, Nat.le_trans hk.size h.size, fun k hk' => ?_⟩
  have := hk.size
  refine (h.block k (by omega) (by omega) (by rw [h2]; simp)).trans (hk.block k hk')
end Go.Proofs.Ytngbjdaaogbjmaa

/-
  Walks: faultlineref05.Valid, Cut, Count, Compare.
-/
namespace Go.Proofs.Ytngbjdaaogbjmaa
open Go.RowKit

theorem and_pred (n : Nat) : 0 < n → n &&& (n - 1) < n ∧ pc n = pc (n &&& (n - 1)) + 1 := by
  induction n using Nat.strongRecOn with
  | ind n ih =>
    intro h0
    have bits : ∀ a b : Nat, a = b ↔ a % 2 = b % 2 ∧ a / 2 = b / 2 := fun a b => by omega
    by_cases h : n % 2 = 1
    · have e : n &&& (n - 1) = n - 1 := by
        rw [bits]
        have e1 : (n &&& (n - 1)) % 2 = 0 := by
          rw [show (2 : Nat) = 2 ^ 1 from rfl, Nat.and_mod_two_pow, show (n - 1) % 2 ^ 1 = 0 by omega]; simp
        have e2 : (n &&& (n - 1)) / 2 = n / 2 := by
          rw [show (2 : Nat) = 2 ^ 1 from rfl, Nat.and_div_two_pow, show (n - 1) / 2 ^ 1 = n / 2 ^ 1 by omega, Nat.and_self]
        omega
      rw [e]
      refine ⟨by omega, ?_⟩
      rw [pc_one n, pc_one (n - 1), show (n - 1) / 2 = n / 2 by omega]
      omega
    · have h2 := ih (n / 2) (by omega) (by omega)
      have e1 : (n &&& (n - 1)) % 2 = 0 := by
        rw [show (2 : Nat) = 2 ^ 1 from rfl, Nat.and_mod_two_pow, show n % 2 ^ 1 = 0 by omega]; simp
      have e2 : (n &&& (n - 1)) / 2 = n / 2 &&& (n / 2 - 1) := by
        rw [show (2 : Nat) = 2 ^ 1 from rfl, Nat.and_div_two_pow, show (n - 1) / 2 ^ 1 = n / 2 ^ 1 - 1 by omega]
      refine ⟨by omega, ?_⟩
      rw [pc_one n, pc_one (n &&& (n - 1)), e1, e2]
      omega
def cmpR (a b : Nat) : Int := if a = b then 0 else if ltK a b then -1 else 1
end Go.Proofs.Ytngbjdaaogbjmaa

/-
  Walks: faultlineref05.Sort.
-/
namespace Go.Proofs.Ytngbjdaaogbjmaa
open Go.RowKit

theorem IntsAt.take {w : World} {a : Option Addr} {c : Nat} {xs : List Int} (h : IntsAt w (.slice a xs.length c) xs) (k : Nat) (hk : k ≤ xs.length) : IntsAt w (.slice a k c) (xs.take k) := by
  obtain ⟨a', c', h1, ⟨h0, hn⟩, h2, h3⟩ := h
  cases h1
  refine ⟨a, c, by simp [Nat.min_eq_left hk], ⟨by simp; omega, hn⟩, by simp; omega, fun i hi => ?_⟩
  simp only [List.length_take] at hi
  obtain ⟨b, o, h4, h5⟩ := h3 i (by omega)
  exact ⟨b, o, h4, by simpa using h5⟩
theorem IntsAt.drop {w : World} {b o c : Nat} {xs : List Int} (h : IntsAt w (.slice (some ⟨b, o, none⟩) xs.length c) xs) (k : Nat) (hk : k ≤ xs.length) : IntsAt w (.slice (some ⟨b, o + k, none⟩) (xs.length - k) (c - k)) (xs.drop k) := by
  obtain ⟨a', c', h1, ⟨h0, hn⟩, h2, h3⟩ := h
  cases h1
  refine ⟨some ⟨b, o + k, none⟩, c - k, by simp, ⟨by simp; omega, fun h => by cases h⟩, by simp; omega, fun i hi => ?_⟩
  simp only [List.length_drop] at hi
  obtain ⟨b', o', h4, h5⟩ := h3 (k + i) (by omega)
  cases h4
  exact ⟨b, o + k, rfl, by simpa [Nat.add_assoc] using h5⟩
theorem SetsAt.take {w : World} {a : Option Addr} {c : Nat} {ns : List Nat} (h : SetsAt w (.slice a ns.length c) ns) (k : Nat) (hk : k ≤ ns.length) : SetsAt w (.slice a k c) (ns.take k) := by
  refine ⟨?_, fun n hn => h.2 n (List.mem_of_mem_take hn)⟩
  have := IntsAt.take (xs := ofN ns) (by simpa using h.1) k (by simpa using hk)
  simpa [ofN, List.map_take] using this
theorem SetsAt.drop {w : World} {b o c : Nat} {ns : List Nat} (h : SetsAt w (.slice (some ⟨b, o, none⟩) ns.length c) ns) (k : Nat) (hk : k ≤ ns.length) : SetsAt w (.slice (some ⟨b, o + k, none⟩) (ns.length - k) (c - k)) (ns.drop k) := by
  refine ⟨?_, fun n hn => h.2 n (List.mem_of_mem_drop hn)⟩
  have := IntsAt.drop (xs := ofN ns) (by simpa using h.1) k (by simpa using hk)
  simpa [ofN, List.map_drop] using this
theorem SetsAt.shape {w : World} {v : Value} {ns : List Nat} (h : SetsAt w v ns) : ∃ a c, v = .slice a ns.length c ∧ ns.length ≤ c ∧ (ns ≠ [] → ∃ b o, a = some ⟨b, o, none⟩) := by
  obtain ⟨⟨a, c, h1, ⟨h0, _⟩, _, h3⟩, _⟩ := h
  refine ⟨a, c, by simpa using h1, by simpa using h0, fun hne => ?_⟩
  have : 0 < (ofN ns).length := by simpa using List.length_pos_iff.2 hne
  obtain ⟨b, o, h4, _⟩ := h3 0 this
  exact ⟨b, o, h4⟩

def lenV : Value → Nat | .slice _ n _ => n | _ => 0
/-- What a merge has taken, and what is left. -/
structure MInv (ns zs xs ys : List Nat) : Prop where
  left : (zs ++ xs).Pairwise ltK
  right : (zs ++ ys).Pairwise ltK
  mem : ∀ z, z ∈ ns ↔ z ∈ zs ∨ z ∈ xs ∨ z ∈ ys
  len : zs.length + xs.length + ys.length ≤ ns.length
theorem MInv.start (ns : List Nat) (h : Nat) : MInv ns [] (sortK (ns.take h)) (sortK (ns.drop h)) := by
  refine ⟨by simpa using pair_sortK _, by simpa using pair_sortK _, fun z => ?_, ?_⟩
  · rw [mem_sortK, mem_sortK]
    have := List.mem_append (a := z) (s := ns.take h) (t := ns.drop h)
    rw [List.take_append_drop] at this
    simpa using this
  · have h1 := len_sortK (ns.take h)
    have h2 := len_sortK (ns.drop h)
    simp at h1 h2 ⊢
    omega
theorem MInv.eq {ns zs xs ys : List Nat} {x : Nat} (h : MInv ns zs (x :: xs) (x :: ys)) : MInv ns (zs ++ [x]) xs ys :=
  ⟨by simpa using h.left, by simpa using h.right, fun z => by rw [h.mem]; simp only [List.mem_append, List.mem_cons, List.not_mem_nil]; grind, by have := h.len; simp at this ⊢; omega⟩
theorem MInv.lt {ns zs xs ys : List Nat} {x y : Nat} (h : MInv ns zs (x :: xs) (y :: ys)) (hl : ltK x y) : MInv ns (zs ++ [x]) xs (y :: ys) := by
  refine ⟨by simpa using h.left, ?_, fun z => by rw [h.mem]; simp only [List.mem_append, List.mem_cons, List.not_mem_nil]; grind, by have := h.len; simp at this ⊢; omega⟩
  have h1 := List.pairwise_append.1 h.left
  have h2 := List.pairwise_append.1 h.right
  rw [List.pairwise_append]
  refine ⟨?_, h2.2.1, ?_⟩
  · rw [List.pairwise_append]; exact ⟨h1.1, by simp, fun a ha b hb => by simp at hb; subst hb; exact h1.2.2 a ha b (List.mem_cons_self ..)⟩
  · intro a ha b hb
    rcases List.mem_append.1 ha with ha | ha
    · exact h2.2.2 a ha b hb
    · simp at ha; subst ha
      rcases List.mem_cons.1 hb with e | e
      · rw [e]; exact hl
      · exact ltK_tr _ _ _ hl ((List.pairwise_cons.1 h2.2.1).1 b e)
theorem MInv.symm {ns zs xs ys : List Nat} (h : MInv ns zs xs ys) : MInv ns zs ys xs :=
  ⟨h.right, h.left, fun z => by rw [h.mem]; constructor <;> (intro h; rcases h with h | h | h <;> simp_all), by have := h.len; omega⟩
theorem MInv.gt {ns zs xs ys : List Nat} {x y : Nat} (h : MInv ns zs (x :: xs) (y :: ys)) (hl : ltK y x) : MInv ns (zs ++ [y]) (x :: xs) ys := (h.symm.lt hl).symm
theorem MInv.doneL {ns zs ys : List Nat} (h : MInv ns zs [] ys) : zs ++ [] ++ ys = sortK ns := by
  rw [List.append_nil]
  exact sortK_unique ns _ h.right fun x => by rw [h.mem]; simp
theorem MInv.doneR {ns zs xs : List Nat} (h : MInv ns zs xs []) : zs ++ xs ++ [] = sortK ns := by
  rw [List.append_nil]
  exact sortK_unique ns _ h.left fun x => by rw [h.mem]; simp
theorem MInv.masks {ns zs xs ys : List Nat} (h : MInv ns zs xs ys) (hm : ∀ n ∈ ns, Mk n) : (∀ n ∈ zs, Mk n) ∧ (∀ n ∈ xs, Mk n) ∧ ∀ n ∈ ys, Mk n :=
  ⟨fun n hn => hm n ((h.mem n).2 (.inl hn)), fun n hn => hm n ((h.mem n).2 (.inr (.inl hn))), fun n hn => hm n ((h.mem n).2 (.inr (.inr hn)))⟩
/-- l[1:] of a list with a head. -/
abbrev restV (b o n c : Nat) : Value := .slice (if c = 1 then some ⟨b, o, none⟩ else some ⟨b, o + 1, none⟩) n (c - 1)
theorem SetsAt.rest {w : World} {b o c : Nat} {x : Nat} {xs : List Nat} (h : SetsAt w (.slice (some ⟨b, o, none⟩) (xs.length + 1) c) (x :: xs)) : SetsAt w (restV b o xs.length c) xs := by
  have h1 := SetsAt.drop (ns := x :: xs) h 1 (by simp)
  unfold restV
  obtain ⟨a', c', h2, h3, _⟩ := h.shape
  cases h2
  by_cases hc : c = 1
  · rw [if_pos hc]
    have : xs = [] := List.eq_nil_of_length_eq_zero (by simp at h3; omega)
    subst this
    subst hc
    exact ⟨⟨_, 0, rfl, ⟨by simp, fun h => by cases h⟩, by simp, fun i hi => by simp at hi⟩, by simp⟩
  · rw [if_neg hc]
    simpa using h1
theorem SetsAt.head {w : World} {b o c m : Nat} {x : Nat} {xs : List Nat} (h : SetsAt w (.slice (some ⟨b, o, none⟩) m c) (x :: xs)) : w.cell? ⟨b, o, none⟩ = some (.int .i64 x) := by
  obtain ⟨⟨a', c', h2, _, _, h3⟩, _⟩ := h
  obtain ⟨b', o', h4, h5⟩ := h3 0 (by simp)
  cases h2
  cases h4
  simpa using h5
theorem sorted_small {ns : List Nat} (h : ns.length < 2) : sortK ns = ns := by
  match ns, h with
  | [], _ => rfl
  | [x], _ => rfl
theorem own_empty (w : World) (B : Nat) (hB : B ≤ w.heap.size) : OwnInts (w.alloc (.cells #[] 3)) B (.slice (some ⟨w.heap.size, 0, none⟩) 0 0) [] :=
  ⟨⟨by simp, .inr ⟨w.heap.size, 0, #[], rfl, hB, heap_alloc_new w _, Nat.le_refl _, by unfold maxLen; omega, by simp, by simp⟩⟩, by simp⟩
end Go.Proofs.Ytngbjdaaogbjmaa

/-
  Walks: family.Covers, family.Check; slices.Equal of equal lists.
-/
namespace Go.Proofs.Ytngbjdaaogbjmaa
open Go.RowKit

theorem decides_cov (s : Int) (B : Nat) (w : World) (hc : w.cell? ⟨B, 0, none⟩ = some (.int .i64 s)) : Decides 95 #[.pointer (some ⟨B, 0, none⟩)] (fun t => subB t s) w := by
  intro W x hK
  have hc' := hK.cell hc
  clear hc
  go_enter Try.func95, Try.ntmps95
  go_wp2_with (go_at_call 96; refine (subset_any _ _ _).mono ?_; rintro e w' ⟨rfl, rfl⟩)
  go_ret
  exact ⟨rfl, Kept.refl _⟩
def covB (l : List Nat) (s : Nat) : Bool := l.any fun t => subN t s
theorem covB_up (l : List Nat) (s : Nat) : covB l s = true ↔ up l s := by
  unfold covB up; rw [List.any_eq_true]
theorem cov_ofN {ns : List Nat} {s : Nat} (hm : ∀ n ∈ ns, Mk n) (hs : Mk s) : (ofN ns).any (fun t => subB t (s : Int)) = covB ns s := by
  unfold covB
  induction ns with
  | nil => rfl
  | cons n ns ih =>
    simp only [ofN, List.map_cons, List.any_cons] at ih ⊢
    rw [ih fun x hx => hm x (List.mem_cons_of_mem _ hx), subB_subN (hm n (List.mem_cons_self ..)) hs]
set_option maxHeartbeats 1000000 in
theorem covers_any (va : Value) (ns : List Nat) (s : Nat) (w : World) (hv : SetsAt w va ns) (hs : Mk s) (hl : ns.length ≤ 1024) :
    Calls Try.prog 49 #[va, .int .i64 s] w fun e w' => e = .returned (.tuple #[.bool (covB ns s), .nilIface]) ∧ Kept w w' := by
  have HL : Hid (Calls Try.prog 92 #[.slice (some ⟨w.heap.size + 1, 0, none⟩) 1 1] ((w.alloc (.cells #[.int .i64 s] 3)).alloc (.cells #[va] 25)) fun e w' => e = .returned .nilIface ∧ Kept (w.alloc (.cells #[.int .i64 s] 3)) w') := Lib.hid (by
    have := lists1 ns va (w.alloc (.cells #[.int .i64 s] 3)) (hv.kept ((Kept.refl _).alloc _))
    rw [if_pos hl, errV_zero, World.size_alloc] at this
    exact this)
  have HV : Hid (∀ W, Calls Try.prog 93 #[.int .i64 s] W fun e w' => e = .returned (.bool true) ∧ W = w') := Lib.hid fun W => valid_yes (by unfold Mk at hs; omega) W
  obtain ⟨r, hr⟩ : ∃ r, r = covB ns s := ⟨_, rfl⟩
  rw [← hr]
  have hr2 := (cov_ofN hv.2 hs).trans hr.symm
  have HR := Lib.hid hr2
  have HS := Lib.hid hv
  obtain ⟨a, c, rfl, _, _⟩ := hv.shape
  clear hv hs hl hr hr2
  go_enter Try.func49, Try.ntmps49
  go_wp2_with fail
  refine HL.out.mono ?_
  rintro e w1 ⟨rfl, hk1⟩
  have c0 := hk1.cell (p := ⟨w.heap.size, 0, none⟩) (v := .int .i64 s) (by simp)
  go_wp2_with (first
    | (go_at_call 93; refine (HV.out _).mono ?_; rintro e w2 ⟨rfl, rfl⟩)
    | (go_at_call 94; refine (has_any _ _ (enters_of Try.func95 (by kernel_rfl) rfl) _ _ (ofN ns) _ (decides_cov s _ _ c0) ((HS.out.kept (((Kept.refl _).alloc _).trans hk1)).1)).mono ?_; rintro e w2 ⟨rfl, hK2⟩; rw [HR.out]))
  go_ret2
  exact ⟨rfl, (((Kept.refl _).alloc _).trans hk1).trans hK2⟩
theorem sortK_can {l : List Nat} (h : Can l) : sortK l = l := (sortK_unique l l (by rw [← h]; exact pair_minK l) fun _ => Iff.rfl).symm
end Go.Proofs.Ytngbjdaaogbjmaa

/-
  Walks: topdown.Cuts, topdown.Steps.
-/
namespace Go.Proofs.Ytngbjdaaogbjmaa
open Go.RowKit

theorem nodup_perm {R : List Nat} : ∀ {l : List Nat}, R.Nodup → (∀ x ∈ R, x ∈ l) → l.length ≤ R.length → l.Perm R := by
  induction R with
  | nil => intro l _ _ hl; simp at hl; subst hl; exact .refl _
  | cons x R ih =>
    intro l hn hs hl
    have hx : x ∈ l := hs x (List.mem_cons_self ..)
    have h1 := List.perm_cons_erase hx
    have h2 := ih (l := l.erase x) (List.nodup_cons.1 hn).2 (fun y hy => (List.mem_erase_of_ne (fun e => (List.nodup_cons.1 hn).1 (by rw [← e]; exact hy))).2 (hs y (List.mem_cons_of_mem _ hy))) (by rw [List.length_erase_of_mem hx]; simp at hl; omega)
    exact h1.trans (h2.cons x)
theorem sorted_can {R rs : List Nat} (hR : Can R) (hl : rs.length = R.length) (hp : rs.Pairwise (fun a b => ltK a b ∨ a = b)) (hm : ∀ x, x ∈ rs ↔ x ∈ R) : rs = R := by
  have hpR : R.Pairwise ltK := by rw [← hR]; exact pair_minK R
  have hnR : R.Nodup := hpR.imp fun {a b} h e => by subst e; exact ltK_irr a h
  have hperm := nodup_perm hnR (fun x hx => (hm x).2 hx) (Nat.le_of_eq hl)
  have hn : rs.Nodup := hperm.symm.nodup hnR
  have hlt : rs.Pairwise ltK := (hp.and hn).imp fun {a b} h => h.1.resolve_right h.2
  exact pair_unique ltK ltK_irr ltK_tr rs R hlt hpR hm
end Go.Proofs.Ytngbjdaaogbjmaa

/-
  Walks: faultlinelaw31.awake.
-/
namespace Go.Proofs.Ytngbjdaaogbjmaa
open Go.RowKit

theorem pc_even (n : Nat) (h : 0 < n) : pc (2 * n) = pc n := by
  conv => lhs; unfold pc
  rw [if_neg (by omega), show 2 * n % 2 = 0 by omega, show 2 * n / 2 = n by omega]; omega
theorem pc_odd (n : Nat) : pc (2 * n + 1) = 1 + pc n := by
  conv => lhs; unfold pc
  rw [if_neg (by omega), show (2 * n + 1) % 2 = 1 by omega, show (2 * n + 1) / 2 = n by omega]
theorem pc_two (k : Nat) : pc (2 ^ k) = 1 := by
  induction k with
  | zero => exact pcs.2.1
  | succ k ih => rw [Nat.pow_succ, Nat.mul_comm, pc_even _ (Nat.pow_pos (by omega))]; exact ih
set_option linter.unusedSimpArgs false in
theorem top_ex : topK 3 5 exN = some ([1, 6], [1, 2, 2]) := by
  obtain ⟨h0, h1, h2, h3, h4, h5, h6, h7⟩ := pcs
  have p1 : pc 16777217 = 2 := by rw [show 16777217 = 2 * 2 ^ 23 + 1 by decide, pc_odd, pc_two]
  have p2 : pc 16777220 = 2 := by rw [show 16777220 = 2 * (2 * (2 * 2 ^ 21 + 1)) by decide, pc_even _ (by decide), pc_even _ (by decide), pc_odd, pc_two]
  have m1 : minK [50331648] = [50331648] := by simp [minK, sortK, insK, minN, keepN]
  have m2 : minK [16777217, 16777220] = [16777217, 16777220] := by simp +decide [minK, sortK, insK, minN, keepN, ltK, p1, p2]
  have m3 : minK [1, 3, 5, 6] = [1, 6] := by simp +decide [minK, sortK, insK, minN, keepN, ltK, h0, h1, h2, h3, h4, h5, h6, h7]
  have s2 : runK 3 exN 3 [67108864] = (runK 3 exN 2 [50331648]).map fun p => (p.1, 1 :: p.2) := by
    conv => lhs; unfold runK
    rw [if_pos (by decide), show expK 3 (exN.getD 2 noNd) 2 [67108864] = [50331648] by decide, m1]; rfl
  have s1 : runK 3 exN 2 [50331648] = (runK 3 exN 1 [16777217, 16777220]).map fun p => (p.1, 2 :: p.2) := by
    conv => lhs; unfold runK
    rw [if_pos (by decide), show expK 3 (exN.getD 1 noNd) 1 [50331648] = [16777217, 16777220] by decide, m2]; rfl
  have s0 : runK 3 exN 1 [16777217, 16777220] = (runK 3 exN 0 [1, 6]).map fun p => (p.1, 2 :: p.2) := by
    conv => lhs; unfold runK
    rw [if_pos (by decide), show expK 3 (exN.getD 0 noNd) 0 [16777217, 16777220] = [1, 3, 5, 6] by decide, m3]; rfl
  unfold topK
  rw [show cond 3 ((5 : Nat) : Int) = 67108864 by decide, show exN.length = 3 from rfl, s2, s1, s0]
  rfl
theorem tex_cases : (∃ q, ((q = 4 ∧ synK 3 5 exF = true ∧ topK 3 5 exF.nodes = none) ∨ (q = 7 ∧ synK 3 5 exF = false))) → False := by
  rintro ⟨q, ⟨_, _, h⟩ | ⟨_, h⟩⟩
  · rw [show exF.nodes = exN from rfl, top_ex] at h; cases h
  · rw [syn_ex] at h; cases h
theorem three_new (w : World) (x y z : Int) : IntsAt (w.alloc (.cells #[.int .i64 x, .int .i64 y, .int .i64 z] 3)) (.slice (some ⟨w.heap.size, 0, none⟩) 3 3) [x, y, z] := by
  refine ⟨_, 3, rfl, ⟨Nat.le_refl _, fun h => by cases h⟩, by simp, fun i hi => ⟨w.heap.size, 0, rfl, ?_⟩⟩
  match i, hi with
  | 0, _ => exact alloc_cell rfl rfl
  | 1, _ => exact alloc_cell rfl rfl
  | 2, _ => exact alloc_cell rfl rfl
end Go.Proofs.Ytngbjdaaogbjmaa

/-
  Walks: faultlinebase.Is. The frame of the laws of a formula and a small number.
-/
namespace Go.Proofs.Ytngbjdaaogbjmaa
open Go.RowKit Go.ChangeShapes Go.WideShapes Go.ChangeAt Go.Joins Go.Deep

theorem as_nil (w : World) : (Instr.typeAssert .nilIface 29 56 true).run Try.prog w = .ok (.tuple #[.int .i64 0, .bool false]) w := by kernel_rfl
theorem OwnFams.sliceS {w : World} {B : Nat} {v : Value} {xss : List (List Nat)} (h : OwnFams w B v xss) : ∃ a n c, v = .slice a n c := by
  obtain ⟨us, _, ⟨_, h⟩, _⟩ := h
  rcases h with ⟨rfl, _⟩ | ⟨g, cp, _, rfl, _⟩
  · exact ⟨_, _, _, rfl⟩
  · exact ⟨_, _, _, rfl⟩
set_option maxRecDepth 100000 in
theorem is_any (q c : Nat) (hq : q ≠ 0) (w : World) : Calls Try.prog 34 #[errV q, .int .i64 c] w fun e w' => e = .returned (.bool (q == c)) ∧ w = w' := by
  rw [errV_pos hq]
  have e : ((q : Int) == (c : Int)) = (q == c) := by rw [Bool.eq_iff_iff]; simp; omega
  have HE := Lib.hid e
  clear hq e
  go_enter Try.func34, Try.ntmps34
  go_wp2
  rw [as_errno]
  go_wp2
  go_ret
  exact ⟨by rw [← HE.out]; rfl, rfl⟩
set_option maxRecDepth 100000 in
theorem is_nil (c : Nat) (w : World) : Calls Try.prog 34 #[.nilIface, .int .i64 c] w fun e w' => e = .returned (.bool false) ∧ w = w' := by
  go_enter Try.func34, Try.ntmps34
  go_wp2
  rw [as_nil]
  go_wp2
  go_ret
  exact ⟨rfl, rfl⟩
set_option maxRecDepth 100000 in
/-- A law of a formula and a number: from its walk to its row's step. -/
theorem lift2 {s : ChangeSpec} (F : FuncId) (fn : Func) (t2 : TypeId) (k2 : IntKind) (ht2 : Try.prog.underlying t2 = some (.int k2)) (hr2 : Try.prog.readableRec t2 = true) (hlt2 : t2 < Try.prog.types.size) (hs1 : s.vars = []) (hs2 : ∀ (H : Type) (d1 d2 : DataW H), s.fn H [d1, d2] = { results := [.lit (.bool true)], args := [d1, d2] })
    (hp : fn.params = #[64, t2]) (hr : fn.resultTypes = #[4])
    (walk : ∀ (W : World) (u : Value) (f : Fm) (x : Int), NodesAt W u f.nodes → FmOk f → (Lit.int k2 x).wf = true → Calls Try.prog F #[fmV u f, .int k2 x] W fun e w' => e = .returned (.bool true) ∧ Kept W w')
    {H : Type} {enc : TypeId × Value → H} (W : World) (base : Nat) (args : Array Value) (ds gs : List (DataW H)) (before : List MemPlace)
    (hval : ∀ (j : Nat) t v, fn.params[j]? = some t → args[j]? = some v → Value.okWide Try.prog W .any base t v)
    (hW : DataW.Whole enc Try.prog fn.params.toList s.vars false W args.toList ds gs before)
    (hsz : (DataW.weightsEach Try.prog (fn.params.toList ++ s.plain.varTypes Try.prog) (ds ++ gs)).all (· ≤ reachBytes) = true) :
    Calls Try.prog F args W fun e W' => ∃ v, e = .returned v ∧ s.post enc Try.prog fn false true false false W args v W' := by
  have hW' := hW
  obtain ⟨p, q, hA, hV, rfl, hfz, _⟩ := hW
  rw [hs1] at hV
  obtain ⟨rfl, rfl⟩ := trodVars_none hV
  rw [hp] at hA hval hsz
  obtain ⟨v0, v1, d0, d1, p0, p1, rfl, rfl, rfl, h0, h1⟩ := trodAll_two hA
  have h0k := h0
  have h1k := h1
  obtain ⟨u, f, rfl, hn, hok⟩ := fm_open (hval 0 _ _ rfl rfl) (fun n hn => by
    have := List.all_eq_true.1 hsz n (DataW.weights_mem_each (j := 0) rfl rfl n hn)
    simpa using this) h0
  obtain ⟨x, rfl, rfl, rfl, wx⟩ := open_int ht2 (hval 1 _ _ rfl rfl) h1
  have hlt : ∀ x ∈ p0, x.block < W.heap.size := fun x hx => hW'.lt x (by simp [hx])
  refine (walk W u f x hn hok wx).mono fun e W' ⟨he, hk⟩ => ?_
  subst he
  refine ⟨_, rfl, [d0, .lit (.int k2 x)], [], (p0 ++ []) ++ [], [], p0 ++ [], [], hW', ?_, ?_, ?_, Below.frame hk _, fun h => by cases h⟩
  · rw [hr]
    simp only [List.append_nil, hs2]
    exact trodAll_mk1 (shut_bool Try.underlying4 _)
  · rw [hp]
    simp only [List.append_nil, hs2]
    have := trodAll_mk2 (Below.trod laidOutK (by kernel_rfl) (of_decide_eq_true (by kernel_rfl)) h0k hk hlt) (Below.trod laidOutK hr2 hlt2 h1k hk (fun x hx => by cases hx))
    simpa using this
  · rw [hs1]
    simp only [List.append_nil, hs2]
    rfl
end Go.Proofs.Ytngbjdaaogbjmaa

/-
  Walks: formula.values.
-/
namespace Go.Proofs.Ytngbjdaaogbjmaa
open Go.RowKit

/-- A slice of bools of the call's own. -/
def OwnBools (w : World) (B : Nat) (v : Value) (bs : List Bool) : Prop := w.ownsRow B 4 1 v bs.length (bs.map Value.bool) ∧ bs.length ≤ 1000000
theorem OwnBools.kept {w w' : World} {B : Nat} {v : Value} {bs : List Bool} (h : OwnBools w B v bs) (hk : Kept w w') : OwnBools w' B v bs := ⟨own_kept h.1 hk, h.2⟩
theorem OwnBools.mono {w : World} {B B' : Nat} {v : Value} {bs : List Bool} (h : OwnBools w B v bs) (hb : B' ≤ B) : OwnBools w B' v bs := ⟨own_mono h.1 hb, h.2⟩
theorem OwnBools.shape {w : World} {B : Nat} {v : Value} {bs : List Bool} (h : OwnBools w B v bs) (h0 : bs ≠ []) : ∃ g cap, v = .slice (some ⟨g, 0, none⟩) bs.length cap ∧ B ≤ g ∧ g < w.heap.size ∧ bs.length ≤ cap := by
  obtain ⟨⟨_, h3⟩, _⟩ := h
  rcases h3 with ⟨_, h3⟩ | ⟨g, cap, cur, rfl, h4, h5, h6, _⟩
  · exact absurd (List.eq_nil_of_length_eq_zero h3) h0
  · exact ⟨g, cap, rfl, h4, heap_lt h5, h6⟩
theorem OwnBools.slice {w : World} {B : Nat} {v : Value} {bs : List Bool} (h : OwnBools w B v bs) : ∃ a c, v = .slice a bs.length c ∧ bs.length ≤ c := by
  obtain ⟨⟨_, h3⟩, _⟩ := h
  rcases h3 with ⟨rfl, h3⟩ | ⟨g, cap, cur, rfl, h4, h5, h6, _⟩
  · exact ⟨none, 0, by rw [h3], by omega⟩
  · exact ⟨_, cap, rfl, h6⟩
theorem OwnBools.cell {w : World} {B g n cap : Nat} {bs : List Bool} (h : OwnBools w B (.slice (some ⟨g, 0, none⟩) n cap) bs) (i : Nat) (hi : i < bs.length) : w.cell? ⟨g, i, none⟩ = some (.bool (bs.getD i false)) := by
  obtain ⟨⟨_, h6⟩, _⟩ := h
  rcases h6 with ⟨h6, _⟩ | ⟨g', cap', cur, h6, _, h7, h8, h9, h10, h11⟩
  · cases h6
  · cases h6
    have e1 : (cur.toList.take (bs.length * 1))[i]? = (bs.map Value.bool)[i]? := by rw [h11]
    rw [List.getElem?_take_of_lt (by omega)] at e1
    simp only [World.cell?, h7]
    simpa [hi, List.getD_eq_getElem?_getD] using e1
theorem OwnBools.free {w : World} {B g n cap : Nat} {bs : List Bool} (h : OwnBools w B (.slice (some ⟨g, 0, none⟩) n cap) bs) (i : Nat) : w.frozen? ⟨g, i, none⟩ = false := by
  obtain ⟨⟨_, h3⟩, _⟩ := h
  rcases h3 with ⟨h3, _⟩ | ⟨g', cap', cur, h3, _, h4, _⟩
  · cases h3
  · cases h3
    simp [World.frozen?, h4]
theorem OwnBools.store {w : World} {B g n cap : Nat} {bs : List Bool} (h : OwnBools w B (.slice (some ⟨g, 0, none⟩) n cap) bs) (hn : n = bs.length) (i : Nat) (b : Bool) : OwnBools (w.setCell ⟨g, i, none⟩ (.bool b)) B (.slice (some ⟨g, 0, none⟩) n cap) (bs.set i b) := by
  subst hn
  refine ⟨?_, by simpa using h.2⟩
  have := (h.1.stored i (.bool b)).1
  simpa [List.map_set] using this
theorem make_bools {ops : Array Oper} {rest : List Oper} {o : Oper} {a : Act} {Q : Exit → Act → World → Prop} {w : World} (hg : o.guard = none) (l c : Operand)
    (hop : o.op = Op.makeSlice 111 l c) (n m : Nat) (hl : a.eval l = .int .i64 n) (hc : a.eval c = .int .i64 m) (hnm : n ≤ m) (hb : m ≤ 1000000)
    (hK : ∀ w', OwnBools w' w.heap.size (.slice (some ⟨w.heap.size, 0, none⟩) n m) (List.replicate n false) → Kept w w' → w.heap.size < w'.heap.size → wpList Try.prog ops Q rest (a.put o.dst (.slice (some ⟨w.heap.size, 0, none⟩) n m)) w') : wpList Try.prog ops Q (o :: rest) a w := by
  obtain ⟨i0, hi0, hz0, hz1, hz2⟩ := info_parts info_bool
  refine wpList_plain hg fun K hK' => ?_
  have hrun := run_make (P := Try.prog) w 111 4 i0 _ Try.underlying111 hi0 hz0 .i64 .i64 n m (by omega) (by omega) (by rw [hz2]; omega) (by omega)
  simp only [Int.toNat_natCast] at hrun
  obtain ⟨w', hw'⟩ : ∃ w', w' = w.alloc (.cells (madeCells (Value.bool false).cells (m * i0.size)) 4) := ⟨_, rfl⟩
  rw [← hw'] at hrun
  unfold Oper.wp
  simp [execOp, hop, hl, hc, hrun, Result.andThen]
  subst hw'
  refine hK' _ _ (hK _ ?_ ((Kept.refl _).alloc _) (by simp))
  refine ⟨⟨by simp, .inr ⟨w.heap.size, m, _, by simp, Nat.le_refl _, heap_alloc_new w _, by simpa using hnm, by unfold maxLen; omega, by rw [size_madeCells, hz1], ?_⟩⟩, by simp; omega⟩
  simp only [hz1]
  rw [made_one _ rfl m]
  simp [List.take_replicate, Nat.min_eq_left hnm]
theorem app_bool {ops : Array Oper} {rest : List Oper} {o : Oper} {a : Act} {Q : Exit → Act → World → Prop} {w : World} (hgd : o.guard = none) (s x : Operand)
    (ho : o.op = .call { callee := .builtin .append, args := #[s, x], argTypes := #[111, 111] }) (B : Nat) (v : Value) (bs : List Bool) (hs : a.eval s = v) (hown : OwnBools w B v bs)
    (ad : Addr) (y : Bool) (hx : a.eval x = .slice (some ad) 1 1) (hc : w.cell? ad = some (.bool y)) (hl : bs.length < 1000000) (hB : B ≤ w.heap.size)
    (h : ∀ v' w', OwnBools w' B v' (bs ++ [y]) → Below B w w' → wpList Try.prog ops Q rest (a.put o.dst v') w') : wpList Try.prog ops Q (o :: rest) a w := by
  refine app_one 111 4 _ 1 info_bool Try.underlying111 rfl hgd s x ho B v (bs.map .bool) hs (by simpa using hown.1) ad _ hx hc rfl (by simp; omega) (by simp [maxLen]; omega) hB ?_
  intro v' w' h2 h3 h4
  exact h v' w' ⟨by simpa using h2, by simp; omega⟩ h4
theorem bit_val (s k : Nat) (hs : s < 16777216) : (bits .and .i64 ((s : Int) / 2 ^ k) 1 == 1) = s.testBit k := by
  have e : (s : Int) / 2 ^ k = ((s / 2 ^ k : Nat) : Int) := by simp
  have hle : s / 2 ^ k ≤ s := Nat.div_le_self _ _
  rw [e, show (1 : Int) = ((1 : Nat) : Int) from rfl, and_i64 _ _ (by omega) (by omega), Nat.testBit_eq_decide_div_mod_eq, Nat.and_one_is_mod]
  rw [Bool.eq_iff_iff]
  simp
  omega
theorem bits_step (V s k : Nat) (h : k < V) : ((List.range k).map (fun i => s.testBit i) ++ List.replicate (V - k) false).set k (s.testBit k) = (List.range (k + 1)).map (fun i => s.testBit i) ++ List.replicate (V - (k + 1)) false := by
  rw [List.set_append_right _ _ (by simp), show V - k = (V - (k + 1)) + 1 by omega, List.replicate_succ, List.range_succ]
  simp
/-- One node's value, by its kind. -/
theorem nodeV_cases {kind : Int} (h : 0 ≤ kind ∧ kind ≤ 5) : kind = 0 ∨ kind = 1 ∨ kind = 2 ∨ kind = 3 ∨ kind = 4 ∨ kind = 5 := by omega
set_option maxRecDepth 100000 in
set_option maxHeartbeats 8000000 in
theorem values_any (v : Value) (f : Fm) (V T s : Nat) (w : World) (hv : NodesAt w v f.nodes) (hok : Ok f V T) (hs : s < 16777216) :
    Calls Try.prog 91 #[.agg #[.int .i64 V, v, .int .i64 T], .int .i64 s] w fun e w' => (∃ v', e = .returned v' ∧ OwnBools w' w.heap.size v' (valsK V s f.nodes) ∧ (f.nodes.length = 0 → ∃ g, v' = .slice (some ⟨g, 0, none⟩) V V)) ∧ Kept w w' := by
  obtain ⟨a, c, rfl, _, hl, hx⟩ := hv
  obtain ⟨n, hn⟩ : ∃ n, n = f.nodes.length := ⟨_, rfl⟩
  rw [← hn] at hl ⊢
  have hn9 : n ≤ 128 := by rw [hn]; exact hok.n128
  have hV9 := hok.v24
  obtain ⟨r, hr⟩ : ∃ r, r = valsK V s f.nodes := ⟨_, rfl⟩
  rw [← hr]
  unfold valsK at hr
  rw [← hn] at hr
  have HX := Lib.hid hx
  have HN := Lib.hid hn
  have HO := Lib.hid hok
  have HR := Lib.hid hr
  clear hx hn hok hr hl
  go_enter Try.func91, Try.ntmps91
  go_wp2_with (at_make; refine make_bools rfl _ _ rfl V (V + n) rfl (by show Value.int .i64 ((V : Int) + n) = .int .i64 ((V + n : Nat) : Int); rw [Int.natCast_add]) (by omega) (by omega) ?_; intro w3 ho3 hk3 hz3; have O3 := Lib.hid ho3; clear ho3)
  have HK3 := Lib.hid hk3
  clear hk3
  simp only [World.size_alloc] at O3 HK3 hz3 ⊢
  go_loopw [6, 24] (fun _ i wr => ∃ k : Nat, k ≤ V ∧ i = .int .i64 k ∧ Hid (OwnBools wr (w.heap.size + 1) (.slice (some ⟨w.heap.size + 1, 0, none⟩) V (V + n)) ((List.range k).map (fun i => s.testBit i) ++ List.replicate (V - k) false) ∧ Kept (w.alloc (.cells #[.int .i64 V, .slice a n c, .int .i64 T] 64)) wr)) (fun _ i _ => V - (intOf i).toNat)
  case atStart => exact ⟨0, Nat.zero_le _, rfl, Lib.hid ⟨by simpa using O3.out, HK3.out⟩⟩
  case round =>
    obtain ⟨k, hk, rfl, HI⟩ := hrel
    have hlen : V = ((List.range k).map (fun i => s.testBit i) ++ List.replicate (V - k) false).length := by simp; omega
    by_cases hlt : k < V
    · have hc0 := HI.out.1.cell k (by simp; omega)
      have hf0 := HI.out.1.free k
      have HL := Lib.hid hlen
      have HBV := Lib.hid (bit_val s k hs)
      clear hlen
      go_wp2
      go_roundw
      case rel =>
        refine ⟨k + 1, by omega, by go_num, Lib.hid ⟨?_, HI.out.2.store (by simp) _ _⟩⟩
        have h7 := HI.out.1.store HL.out k (s.testBit k)
        rw [bits_step V s k hlt, ← HBV.out] at h7
        exact h7
      case measure => simp [intOf]; omega
    · have hkV : k = V := by omega
      have h0 : valsUp V s f.nodes 0 = (List.range k).map (fun i => s.testBit i) ++ List.replicate (V - k) false := by rw [hkV]; simp [valsUp]
      have hI := HI.out
      rw [← h0] at hI
      have HI0 := Lib.hid hI
      have q0 := hI.2.cell (p := ⟨w.heap.size, 0, none⟩) (v := .int .i64 V) (by simp)
      have q1 := hI.2.cell (p := ⟨w.heap.size, 1, none⟩) (v := .slice a n c) (by simp)
      clear hI h0 hkV HI O3 HK3 hlen hz3
      go_wp2_with fail
      obtain ⟨wb, rfl⟩ : ∃ wb : World, wb = wr := ⟨_, rfl⟩
      go_loopw [5, 8, 9, 11, 12, 39, 46] (fun vv _ _ _ _ i _ wr => ∃ k : Nat, k ≤ n ∧ i = .int .i64 k ∧ OwnBools wr (w.heap.size + 1) vv (valsUp V s f.nodes k) ∧ Hid (k = 0 → vv = .slice (some ⟨w.heap.size + 1, 0, none⟩) V (V + n)) ∧ Kept (w.alloc (.cells #[.int .i64 V, .slice a n c, .int .i64 T] 64)) wr) (fun _ _ _ _ _ i _ _ => n - (intOf i).toNat)
      case atStart => exact ⟨0, Nat.zero_le _, rfl, HI0.out.1, Lib.hid fun _ => rfl, HI0.out.2⟩
      case round =>
        obtain ⟨k, hk, rfl, hO, HZ, hK⟩ := hrel
        have HO1 := Lib.hid hO
        have HK := Lib.hid hK
        have hsz := hK.size
        simp only [World.size_alloc] at hsz
        by_cases hlt : k < n
        · have hkx : k < f.nodes.length := by have := HN.out; omega
          obtain ⟨b, o, rfl, u, hc1, hc2, hc3, hI⟩ := HX.out k hkx
          have hkA : Kept w wr := ((Kept.refl w).alloc _).trans hK
          have hrange := node_range (hkA.cell hc1) (hkA.cell hc2) (hkA.cell hc3)
          obtain ⟨ax, cx, rfl, _, hlx, hcx⟩ := hI
          have hargs := HO.out.args k hkx
          have h16 := argsOk_le (HO.out.argc k hkx)
          have hkind := HO.out.kind k hkx
          have hstep : valsUp V s f.nodes (k + 1) = valsUp V s f.nodes k ++ [nodeV f.nodes[k].kind f.nodes[k].k (trueN (valsUp V s f.nodes k) f.nodes[k].args) f.nodes[k].args.length] := by
            show valsUp V s f.nodes k ++ [nodeV (f.nodes.getD k noNd).kind (f.nodes.getD k noNd).k (trueN (valsUp V s f.nodes k) (f.nodes.getD k noNd).args) (f.nodes.getD k noNd).args.length] = _
            rw [show f.nodes.getD k noNd = f.nodes[k] by simp [List.getD_eq_getElem?_getD, hkx]]
          have hvl := len_valsUp V s f.nodes k
          obtain ⟨kd, hkd⟩ : ∃ x, x = f.nodes[k].kind := ⟨_, rfl⟩
          obtain ⟨kk, hkk⟩ : ∃ x, x = f.nodes[k].k := ⟨_, rfl⟩
          obtain ⟨args, hag⟩ : ∃ x, x = f.nodes[k].args := ⟨_, rfl⟩
          rw [← hag] at hcx hargs hlx h16 hstep hrange
          rw [← hkd] at hkind hstep hrange
          rw [← hkk] at hstep hrange
          obtain ⟨na, hna⟩ : ∃ x, x = args.length := ⟨_, rfl⟩
          rw [← hna] at hlx h16 hstep hrange
          obtain ⟨vals, hvals⟩ : ∃ x, x = valsUp V s f.nodes k := ⟨_, rfl⟩
          rw [← hvals] at hstep hvl HO1
          have HRG := Lib.hid hrange
          have HCX := Lib.hid hcx
          have HAR := Lib.hid hargs
          have HNA := Lib.hid hna
          have HST := Lib.hid hstep
          have HVL := Lib.hid hvl
          have HKA := Lib.hid hkA
          have hlw : w.heap.size < wr.heap.size := by omega
          obtain ⟨sa, sc, rfl, hscap⟩ := HO1.out.slice
          rw [hvl] at HO1 hscap ⊢
          clear hc1 hc2 hc3 hrange hcx hargs hna hstep hvl hkA hkd hkk hag hvals hO hK hlx
          go_wp2_with (with_reducible refine wpList_load_mid rfl 106 _ rfl b (o + k * 3) rfl _ _ HRG.out Try.underlying106 rfl (by kernel_rfl) ?_)
          obtain ⟨wo, rfl⟩ : ∃ wo : World, wo = wr := ⟨_, rfl⟩
          go_loop [9, 11, 46] (fun tn _ j => ∃ p : Nat, p ≤ na ∧ j = .int .i64 p ∧ tn = .int .i64 (trueN vals (args.take p) : Nat)) (fun _ _ j => na - (intOf j).toNat)
          case atStart => exact ⟨0, Nat.zero_le _, rfl, rfl⟩
          case round =>
            obtain ⟨p, hp, rfl, rfl⟩ := hrel
            have ht16 : trueN vals (args.take p) ≤ 16 := by have := trueN_le vals (args.take p); simp at this; omega
            by_cases hpn : p < na
            · have hpx : p < args.length := by have := HNA.out; omega
              obtain ⟨b2, o2, rfl, hc0⟩ := HCX.out p hpx
              have hcell := ((HKA.out).alloc (.cells #[.int .i64 kd, .int .i64 kk, .slice (some ⟨b2, o2, none⟩) na cx] 106)).cell hc0
              obtain ⟨y, hy⟩ : ∃ y, y = args[p] := ⟨_, rfl⟩
              have hy2 := HAR.out args[p] (List.getElem_mem _)
              have hst : trueN vals (args.take (p + 1)) = trueN vals (args.take p) + (vals.getD args[p].toNat false).toNat := by
                rw [List.take_succ_eq_append_getElem hpx, trueN_append]
                simp only [trueN]
                cases vals.getD args[p].toNat false <;> rfl
              rw [← hy] at hcell hy2 hst
              obtain ⟨Y, hY⟩ := Int.eq_ofNat_of_zero_le hy2.1
              subst hY
              simp only [Int.toNat_natCast] at hst
              have HO2 := HO1.out
              obtain ⟨g, cap, hge, hg1, hg2, _⟩ := HO2.shape (by intro e; have := HVL.out; rw [e] at this; simp at this; omega)
              injection hge with h1 h2 h3
              subst h1 h3
              have hcv := (((HO1.out).kept ((Kept.refl _).alloc (.cells #[.int .i64 kd, .int .i64 kk, .slice (some ⟨b2, o2, none⟩) na cx] 106))).cell Y (by have := HVL.out; omega))
              have hYl : (Y : Int) < ((V + k : Nat) : Int) := by omega
              have hYl2 : (Y : Int) < (V : Int) + (k : Int) := by omega
              obtain ⟨tq, htq⟩ : ∃ x, x = trueN vals (args.take p) := ⟨_, rfl⟩
              rw [← htq] at hst ht16 ⊢
              have HST2 := Lib.hid hst
              clear hc0 hy hst htq HO2 hg1 hg2
              cases hb : vals.getD Y false with
              | true =>
                rw [hb] at hcv
                have HB := Lib.hid hb
                clear hb
                go_wp2
                go_round
                case rel => exact ⟨p + 1, by omega, by go_num, by rw [HST2.out, HB.out]; rfl⟩
                case measure => simp [intOf]; omega
              | false =>
                rw [hb] at hcv
                have HB := Lib.hid hb
                clear hb
                go_wp2
                go_round
                case rel => exact ⟨p + 1, by omega, by go_num, by rw [HST2.out, HB.out]; rfl⟩
                case measure => simp [intOf]; omega
            · have hpe : args.take p = args := List.take_of_length_le (by have := HNA.out; omega)
              rw [hpe] at ht16 ⊢
              obtain ⟨tq, htq⟩ : ∃ x, x = trueN vals args := ⟨_, rfl⟩
              have hstep := HST.out
              rw [← htq] at hstep ht16 ⊢
              have HST2 := Lib.hid hstep
              clear hpe htq hstep
              have hcn := (((Kept.refl wo).alloc (.cells #[.int .i64 kd, .int .i64 kk, .slice ax na cx] 106)))
              have HCN := Lib.hid hcn
              clear hcn
              rcases nodeV_cases hkind with rfl | rfl | rfl | rfl | rfl | rfl
              · have HE : Hid (nodeV 0 kk tq na = (kk == 1)) := Lib.hid rfl
                go_wp2_with (at_builtin; refine app_bool rfl _ _ rfl (w.heap.size + 1) _ vals rfl (HO1.out.kept (HCN.out.alloc _)) _ (kk == 1) rfl (by simp) (by have := HVL.out; omega) (by simp; omega) ?_; intro v7 w7 hown7 hb7; have O7 := Lib.hid hown7; have HB7 := Lib.hid hb7; clear hown7 hb7)
                go_roundw
                case rel => exact ⟨k + 1, by omega, by go_num, by rw [HST2.out, HE.out]; exact O7.out, Lib.hid (fun h => by omega), (HK.out.trans (HCN.out.alloc _)).app (HB7.out.mono (by simp))⟩
                case measure => simp [intOf]; omega
              · have HE : Hid (nodeV 1 kk tq na = ((tq : Int) == 0)) := Lib.hid (by show (tq == 0) = _; rw [Bool.eq_iff_iff]; simp)
                go_wp2_with (at_builtin; refine app_bool rfl _ _ rfl (w.heap.size + 1) _ vals rfl (HO1.out.kept (HCN.out.alloc _)) _ ((tq : Int) == 0) rfl (by simp) (by have := HVL.out; omega) (by simp; omega) ?_; intro v7 w7 hown7 hb7; have O7 := Lib.hid hown7; have HB7 := Lib.hid hb7; clear hown7 hb7)
                go_roundw
                case rel => exact ⟨k + 1, by omega, by go_num, by rw [HST2.out, HE.out]; exact O7.out, Lib.hid (fun h => by omega), (HK.out.trans (HCN.out.alloc _)).app (HB7.out.mono (by simp))⟩
                case measure => simp [intOf]; omega
              · have HE : Hid (nodeV 2 kk tq na = ((tq : Int) == (na : Int))) := Lib.hid (by show (tq == na) = _; rw [Bool.eq_iff_iff]; simp; omega)
                go_wp2_with (at_builtin; refine app_bool rfl _ _ rfl (w.heap.size + 1) _ vals rfl (HO1.out.kept (HCN.out.alloc _)) _ ((tq : Int) == (na : Int)) rfl (by simp) (by have := HVL.out; omega) (by simp; omega) ?_; intro v7 w7 hown7 hb7; have O7 := Lib.hid hown7; have HB7 := Lib.hid hb7; clear hown7 hb7)
                go_roundw
                case rel => exact ⟨k + 1, by omega, by go_num, by rw [HST2.out, HE.out]; exact O7.out, Lib.hid (fun h => by omega), (HK.out.trans (HCN.out.alloc _)).app (HB7.out.mono (by simp))⟩
                case measure => simp [intOf]; omega
              · have HE : Hid (nodeV 3 kk tq na = (decide (0 < (tq : Int)))) := Lib.hid (by show decide (0 < tq) = _; rw [Bool.eq_iff_iff]; simp)
                go_wp2_with (at_builtin; refine app_bool rfl _ _ rfl (w.heap.size + 1) _ vals rfl (HO1.out.kept (HCN.out.alloc _)) _ (decide (0 < (tq : Int))) rfl (by simp) (by have := HVL.out; omega) (by simp; omega) ?_; intro v7 w7 hown7 hb7; have O7 := Lib.hid hown7; have HB7 := Lib.hid hb7; clear hown7 hb7)
                go_roundw
                case rel => exact ⟨k + 1, by omega, by go_num, by rw [HST2.out, HE.out]; exact O7.out, Lib.hid (fun h => by omega), (HK.out.trans (HCN.out.alloc _)).app (HB7.out.mono (by simp))⟩
                case measure => simp [intOf]; omega
              · have HE : Hid (nodeV 4 kk tq na = (decide (kk ≤ (tq : Int)))) := Lib.hid rfl
                go_wp2_with (at_builtin; refine app_bool rfl _ _ rfl (w.heap.size + 1) _ vals rfl (HO1.out.kept (HCN.out.alloc _)) _ (decide (kk ≤ (tq : Int))) rfl (by simp) (by have := HVL.out; omega) (by simp; omega) ?_; intro v7 w7 hown7 hb7; have O7 := Lib.hid hown7; have HB7 := Lib.hid hb7; clear hown7 hb7)
                go_roundw
                case rel => exact ⟨k + 1, by omega, by go_num, by rw [HST2.out, HE.out]; exact O7.out, Lib.hid (fun h => by omega), (HK.out.trans (HCN.out.alloc _)).app (HB7.out.mono (by simp))⟩
                case measure => simp [intOf]; omega
              · have HE : Hid (nodeV 5 kk tq na = ((tq : Int) % 2 == 1)) := Lib.hid (by show (tq % 2 == 1) = _; rw [Bool.eq_iff_iff]; simp; omega)
                go_wp2_with (at_builtin; refine app_bool rfl _ _ rfl (w.heap.size + 1) _ vals rfl (HO1.out.kept (HCN.out.alloc _)) _ ((tq : Int) % 2 == 1) rfl (by simp) (by have := HVL.out; omega) (by simp; omega) ?_; intro v7 w7 hown7 hb7; have O7 := Lib.hid hown7; have HB7 := Lib.hid hb7; clear hown7 hb7)
                go_roundw
                case rel => exact ⟨k + 1, by omega, by go_num, by rw [HST2.out, HE.out]; exact O7.out, Lib.hid (fun h => by omega), (HK.out.trans (HCN.out.alloc _)).app (HB7.out.mono (by simp))⟩
                case measure => simp [intOf]; omega
        · have hkn : k = n := by omega
          have hrr : r = valsUp V s f.nodes k := by rw [HR.out, hkn]
          have HRR := Lib.hid hrr
          obtain ⟨sa, sc, rfl, _⟩ := HO1.out.slice
          clear hkn hrr hO hK
          go_wp2
          go_ret
          exact ⟨⟨_, rfl, by rw [HRR.out]; exact HO1.out.mono (by omega), fun h0 => by
            have hn0 : n = 0 := h0
            have hz := HZ.out (by omega)
            exact ⟨_, by rw [hn0] at hz; exact hz⟩⟩, ((Kept.refl _).alloc _).trans HK.out⟩
end Go.Proofs.Ytngbjdaaogbjmaa

/-
  Walks: formula.check, Value, Values; slices.Clone at []bool.
-/
namespace Go.Proofs.Ytngbjdaaogbjmaa
open Go.RowKit

theorem shlW (V : Nat) (h : V ≤ 24) : wrap64 ((2 : Int) ^ V) = ((2 ^ V : Nat) : Int) := by
  have h1 : (2 : Nat) ^ V ≤ 2 ^ 24 := Nat.pow_le_pow_right (by omega) h
  rw [show (2 : Int) ^ V = ((2 ^ V : Nat) : Int) by simp]
  generalize (2 : Nat) ^ V = z at h1 ⊢
  unfold wrap64; omega
theorem lt_pow24 {V s : Nat} (h : V ≤ 24) (hs : s < 2 ^ V) : s < 16777216 := Nat.lt_of_lt_of_le hs (Nat.pow_le_pow_right (by omega) h : 2 ^ V ≤ 2 ^ 24)
/-- Bools that can be read. -/
def BoolsAt (w : World) (v : Value) (bs : List Bool) : Prop :=
  ∃ (a : Option Addr) (c : Nat), v = .slice a bs.length c ∧ bs.length ≤ c ∧ bs.length ≤ 1000000 ∧ ∀ i (_ : i < bs.length), ∃ b o, a = some ⟨b, o, none⟩ ∧ w.cell? ⟨b, o + i, none⟩ = some (.bool (bs.getD i false))
theorem BoolsAt.kept {w w' : World} {v : Value} {bs : List Bool} (h : BoolsAt w v bs) (hk : Kept w w') : BoolsAt w' v bs := by
  obtain ⟨a, c, h1, h2, h3, h4⟩ := h
  exact ⟨a, c, h1, h2, h3, fun i hi => let ⟨b, o, h5, h6⟩ := h4 i hi; ⟨b, o, h5, hk.cell h6⟩⟩
theorem OwnBools.at {w : World} {B : Nat} {v : Value} {bs : List Bool} (h : OwnBools w B v bs) : BoolsAt w v bs := by
  obtain ⟨a, c, rfl, hc⟩ := h.slice
  refine ⟨a, c, rfl, hc, h.2, fun i hi => ?_⟩
  obtain ⟨g, cap, hge, _⟩ := h.shape (by intro e; rw [e] at hi; simp at hi)
  injection hge with h1 h2 h3
  subst h1 h3
  exact ⟨g, 0, rfl, by simpa using h.cell i hi⟩
theorem own_emptyB (w : World) (B : Nat) (hB : B ≤ w.heap.size) : OwnBools (w.alloc (.cells #[] 4)) B (.slice (some ⟨w.heap.size, 0, none⟩) 0 0) [] :=
  ⟨⟨by simp, .inr ⟨w.heap.size, 0, #[], rfl, hB, heap_alloc_new w _, Nat.le_refl _, by unfold maxLen; omega, by simp, by simp⟩⟩, by simp⟩
/-- append of a whole slice of bools. -/
theorem app_bools {ops : Array Oper} {rest : List Oper} {o : Oper} {a : Act} {Q : Exit → Act → World → Prop} {w : World} (hgd : o.guard = none) (s x : Operand)
    (ho : o.op = .call { callee := .builtin .append, args := #[s, x], argTypes := #[111, 111] }) (B : Nat) (v : Value) (xs : List Bool) (hs : a.eval s = v) (hown : OwnBools w B v xs)
    (ad : Addr) (c : Nat) (ys : List Bool) (hx : a.eval x = .slice (some ad) ys.length c) (hu : BoolsAt w (.slice (some ad) ys.length c) ys) (hl : xs.length + ys.length ≤ 1000000) (hB : B ≤ w.heap.size)
    (h : ∀ v' w', OwnBools w' B v' (xs ++ ys) → Below B w w' → wpList Try.prog ops Q rest (a.put o.dst v') w') : wpList Try.prog ops Q (o :: rest) a w := by
  obtain ⟨i0, hi0, hz0, hz1, hz2⟩ := info_parts info_bool
  obtain ⟨a', c', h1, h2, h3, h4⟩ := hu
  cases h1
  refine wpList_append_own _ hgd s x 111 ho B 4 i0 _ 1 1 Try.underlying111 hi0 hz0 hz1 hz2 rfl (by decide) v xs.length _ hs hown.1 ad ys.length c (ys.map .bool) hx (by simp) ?_ ?_ (by simp [maxLen]; omega) (by omega) hB ?_
  · intro j u hj
    have hj' : j < ys.length := by
      rcases Nat.lt_or_ge j ys.length with h | h
      · exact h
      · rw [List.getElem?_eq_none (by simpa using h)] at hj; cases hj
    obtain ⟨b, o, h5, h6⟩ := h4 j hj'
    cases h5
    simp [hj'] at hj
    subst hj
    rw [show ({ block := b, off := o } : Addr).add j = ⟨b, o + j, none⟩ by unfold Addr.add; split <;> simp_all, h6]
    simp [List.getD_eq_getElem?_getD, hj']
  · intro u hu; obtain ⟨y, _, rfl⟩ := List.mem_map.1 hu; rfl
  · intro v' w' h5 h6 _
    exact h v' w' ⟨by simpa using h5, by simp; omega⟩ (grown_below h6 hown.1 hB)
set_option maxRecDepth 100000 in
theorem fmcheck_ok (v : Value) (f : Fm) (V T s : Nat) (w : World) (hv : NodesAt w v f.nodes) (hok : Ok f V T) (hck : chkF f = 0) (hs : s < 2 ^ V) :
    Calls Try.prog 90 #[.agg #[.int .i64 V, v, .int .i64 T], .int .i64 s] w fun e w' => e = .returned .nilIface ∧ Kept w w' := by
  have hT := hok.tlt
  have hn := hok.n128
  have hV := hok.v24
  have hfm : fmV v f = .agg #[.int .i64 V, v, .int .i64 T] := by unfold fmV; rw [hok.vars, hok.top]
  have H : Hid (∀ W, Kept w W → Calls Try.prog 45 #[.agg #[.int .i64 V, v, .int .i64 T]] W fun e w' => e = .returned .nilIface ∧ Kept W w') := Lib.hid fun W hk => by
    have := check_any v f W (hv.kept hk) (by rw [hok.top]; omega)
    rw [hck, hfm] at this
    exact this
  obtain ⟨a, c, rfl, _⟩ := hv
  have e1 := shlW V hV
  have e2 : ¬ ((2 ^ V : Nat) : Int) ≤ (s : Int) := by omega
  have e3 : (s : Int) < ((2 ^ V : Nat) : Int) := by omega
  obtain ⟨z, hz⟩ : ∃ z, z = 2 ^ V := ⟨_, rfl⟩
  rw [← hz] at e1 e2 e3
  have b1 : decide ((s : Int) < 0) = false := by simp
  have b2 : decide ((z : Int) ≤ (s : Int)) = false := by simpa using e2
  clear hs hok hck hfm hz hT hn
  go_enter Try.func90, Try.ntmps90
  go_wp2_with fail
  refine (H.out _ ((Kept.refl _).alloc _)).mono ?_
  rintro e w1 ⟨rfl, hk1⟩
  have c0 := hk1.cell (p := ⟨w.heap.size, 0, none⟩) (v := .int .i64 V) (by simp)
  go_wp2
  go_ret
  exact ⟨rfl, ((Kept.refl _).alloc _).trans hk1⟩
set_option maxRecDepth 100000 in
set_option maxHeartbeats 2000000 in
theorem value_any (v : Value) (f : Fm) (V T s : Nat) (w : World) (hv : NodesAt w v f.nodes) (hok : Ok f V T) (hck : chkF f = 0) (hs : s < 2 ^ V) :
    Calls Try.prog 48 #[.agg #[.int .i64 V, v, .int .i64 T], .int .i64 s] w fun e w' => e = .returned (.tuple #[.bool ((valsK V s f.nodes).getD T false), .nilIface]) ∧ Kept w w' := by
  have HC : Hid (∀ W, Kept w W → Calls Try.prog 90 #[.agg #[.int .i64 V, v, .int .i64 T], .int .i64 s] W fun e w' => e = .returned .nilIface ∧ Kept W w') := Lib.hid fun W hk => fmcheck_ok v f V T s W (hv.kept hk) hok hck hs
  have HV : Hid (∀ W, Kept w W → Calls Try.prog 91 #[.agg #[.int .i64 V, v, .int .i64 T], .int .i64 s] W fun e w' => (∃ v', e = .returned v' ∧ OwnBools w' W.heap.size v' (valsK V s f.nodes)) ∧ Kept W w') := Lib.hid fun W hk => (values_any v f V T s W (hv.kept hk) hok (lt_pow24 hok.v24 hs)).mono fun _ _ ⟨⟨v', h1, h2, _⟩, h3⟩ => ⟨⟨v', h1, h2⟩, h3⟩
  have hT := hok.tlt
  have hn := hok.n128
  have hV := hok.v24
  have hlen : (valsK V s f.nodes).length = V + f.nodes.length := len_valsUp V s f.nodes f.nodes.length
  obtain ⟨vals, hvals⟩ : ∃ x, x = valsK V s f.nodes := ⟨_, rfl⟩
  rw [← hvals] at HV hlen ⊢
  have HL := Lib.hid hlen
  obtain ⟨a, c, rfl, _⟩ := hv
  obtain ⟨n, hnn⟩ : ∃ n, n = f.nodes.length := ⟨_, rfl⟩
  rw [← hnn] at HL hT hn HC HV ⊢
  have hT1 : (T : Int) < ((V + n : Nat) : Int) := by omega
  have hT2 : (T : Int) < (V : Int) + (n : Int) := by omega
  clear hs hok hck hvals hlen hnn
  go_enter Try.func48, Try.ntmps48
  go_wp2_with fail
  refine (HC.out _ ((Kept.refl _).alloc _)).mono ?_
  rintro e w1 ⟨rfl, hk1⟩
  have K1 := Lib.hid hk1
  have c0 := hk1.cell (p := ⟨w.heap.size, 0, none⟩) (v := .int .i64 V) (by simp)
  have c1 := hk1.cell (p := ⟨w.heap.size, 1, none⟩) (v := .slice a n c) (by simp)
  have c2 := hk1.cell (p := ⟨w.heap.size, 2, none⟩) (v := .int .i64 T) (by simp)
  clear hk1
  go_wp2_with fail
  go_region_with (go_at_call 91; refine (HV.out _ ((((Kept.refl _).alloc _).trans K1.out).trans (Kept.refl _).drew)).mono ?_; rintro e w5 ⟨⟨v5, rfl, hv5⟩, hk5⟩; obtain ⟨g5, c5, rfl, _, _, _⟩ := hv5.shape (by intro e; have := HL.out; rw [e] at this; simp at this; omega); have hc5 := hv5.cell T (by have := HL.out; omega); rw [HL.out]; have d0 := hk5.cell c0; have d1 := hk5.cell c1; have d2 := hk5.cell c2)
  all_goals (go_wp2_with fail)
  all_goals go_ret2
  all_goals exact ⟨rfl, (((Kept.refl _).alloc _).trans K1.out).trans ((Kept.refl _).drew.trans hk5)⟩
/-- v[k:], k below the capacity. -/
theorem OwnBools.drop {w : World} {B g m cap : Nat} {bs : List Bool} (h : OwnBools w B (.slice (some ⟨g, 0, none⟩) m cap) bs) (k : Nat) (hk : k ≤ bs.length) : BoolsAt w (.slice (some ⟨g, k, none⟩) (bs.length - k) (cap - k)) (bs.drop k) := by
  obtain ⟨a', c', h1, h2⟩ := h.slice
  injection h1 with h3 h4 h5
  subst h4 h5
  refine ⟨some ⟨g, k, none⟩, cap - k, by simp, by simp; omega, by simp; have := h.2; omega, fun i hi => ?_⟩
  simp only [List.length_drop] at hi
  refine ⟨g, k, rfl, ?_⟩
  have := h.cell (k + i) (by omega)
  simpa [List.getD_eq_getElem?_getD] using this
end Go.Proofs.Ytngbjdaaogbjmaa
