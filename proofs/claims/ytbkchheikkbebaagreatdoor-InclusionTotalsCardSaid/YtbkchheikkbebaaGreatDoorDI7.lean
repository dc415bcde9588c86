import Derived.WalkKit
import Derived.WalkSpells
import Derived.WalkLawsBesides
import Derived.Deep.QuietTactic
import Derived.BigQuiet
import Derived.Lib.Hide
import Derived.Shelf.Abstract
import Derived.Deep.RegionWith
import Derived.Laws.AppendOwnNone
import Derived.Lib.AppendZerosOnto
import Derived.Lib.SliceRun
import Derived.Lib.SlicesCompact
import Derived.Shelf.SlSortCmp.NoneTotal
import Derived.Maps.OwnOps
import Derived.Maps.OwnSet
import Derived.Maps.Views
import Derived.Deep.MidRow
import Derived.Deep.RegionHeld3
import Derived.Deep.AppendLies
import Derived.Deep.RegionLaw
import Derived.IntWalk
import Derived.StillTailTactics
import Derived.ProofKit
import Derived.OpenShut
import Derived.SizedLaws
import Derived.Lib.SmallJoins
import Derived.Deep.Slices
import Derived.Deep.Fields
import Derived.Deep.Strs
import Derived.Carry
import Derived.Deep.DeepCutAuto
import Derived.BigRegion
import Derived.ChangeAlike
import Derived.Deep.LoopGhost
import Derived.Lib.ItoaNum
import Derived.RegionTactic
import Derived.Shelf.SlSortCmp.PdqK
import Derived.Sort.LotA
import Derived.Sort.LotD2
import Derived.Lib.BitFns
import Derived.Deep.CutBlock
import Derived.Test.YtbkchheikkbebaaGreatDoorDI6
import Derived.Test.YtbkchheikkbebaaGreatDoorDI5
import Derived.Test.YtbkchheikkbebaaGreatDoorDI2
import Derived.Test.YtbkchheikkbebaaGreatDoorDI1
import Derived.Test.YtbkchheikkbebaaGreatDoorShelf
import Derived.Laws.IdiomStrings
import Derived.Test.YtbkchheikkbebaaGreatDoorDI4
/-
  Plain: lists of cubes that are given, weights by fractions.
-/
namespace Go.Proofs.YtbkchheikkbebaaGreatDoor
open Go.RowKit

/-- The number of the error of a cube, of a list of cubes. -/
def chkCb (c : Int × Int) : Nat := if (0 ≤ c.1 ∧ c.1 < 16777216) ∧ 0 ≤ c.2 ∧ c.2 < 16777216 then (if c.1.toNat &&& c.2.toNat ≠ 0 then 6 else 0) else 3
def chkCs : List (Int × Int) → Nat
  | [] => 0
  | c :: l => if chkCb c ≠ 0 then chkCb c else chkCs l
def natC (c : Int × Int) : Nat × Nat := (c.1.toNat, c.2.toNat)
/-- The cube i meets one before it. -/
def metC (L : List (Int × Int)) (i m : Nat) : Bool := (List.range m).any fun j => meetC (natC (L.getD i default)) (natC (L.getD j default))
def metT (L : List (Int × Int)) (m : Nat) : Bool := (List.range m).any fun i => metC L i i
def chkD (L : List (Int × Int)) : Nat := if 1024 < L.length then 4 else if chkCs L ≠ 0 then chkCs L else if metT L L.length = true then 21 else 0
theorem metC_succ (L : List (Int × Int)) (i m : Nat) : metC L i (m + 1) = (metC L i m || meetC (natC (L.getD i default)) (natC (L.getD m default))) := by
  unfold metC; rw [List.range_succ, List.any_append]; simp
theorem metT_succ (L : List (Int × Int)) (m : Nat) : metT L (m + 1) = (metT L m || metC L m m) := by
  unfold metT; rw [List.range_succ, List.any_append]; simp
theorem chkCb_zero {c : Int × Int} (h : chkCb c = 0) : CbOk (natC c) ∧ c = ofC (natC c) := by
  unfold chkCb at h
  split at h
  · rename_i h1
    split at h
    · cases h
    · rename_i h2
      refine ⟨⟨by show c.1.toNat < _; omega, by show c.2.toNat < _; omega, Classical.byContradiction h2⟩, ?_⟩
      obtain ⟨a, b⟩ := c
      show (a, b) = (((a.toNat : Nat) : Int), ((b.toNat : Nat) : Int))
      rw [Int.toNat_of_nonneg h1.1.1, Int.toNat_of_nonneg h1.2.1]
  · cases h
theorem chkCs_zero : ∀ {L : List (Int × Int)}, chkCs L = 0 → ∀ c ∈ L, chkCb c = 0 := by
  intro L
  induction L with
  | nil => intro _ c hc; cases hc
  | cons d L ih =>
    intro h c hc
    rw [chkCs] at h
    split at h
    · rename_i h1; exact absurd h h1
    · rename_i h1
      rcases List.mem_cons.1 hc with rfl | hc
      · exact Classical.byContradiction h1
      · exact ih h c hc
theorem chkCs_ok : ∀ {L : List (Int × Int)}, (∀ c ∈ L, chkCb c = 0) → chkCs L = 0 := by
  intro L
  induction L with
  | nil => intro _; rfl
  | cons d L ih =>
    intro h
    rw [chkCs, if_neg (by rw [h d List.mem_cons_self]; simp)]
    exact ih fun c hc => h c (List.mem_cons_of_mem _ hc)
theorem chkCs_app (a b : List (Int × Int)) (h : chkCs a = 0) : chkCs (a ++ b) = chkCs b := by
  induction a with
  | nil => rfl
  | cons d a ih =>
    have h1 := chkCs_zero h d List.mem_cons_self
    rw [List.cons_append, chkCs, if_neg (by rw [h1]; simp)]
    refine ih (chkCs_ok fun c hc => chkCs_zero h c (List.mem_cons_of_mem _ hc))
theorem ofCs_getD {l : List (Nat × Nat)} {i : Nat} (h : i < l.length) : (ofCs l).getD i default = ofC l[i] := by
  simp [ofCs, List.getD_eq_getElem?_getD, h]
/-- The probabilities of the events. -/
def qOf (ps : List Rw) (i : Nat) : Rat := ratOf (ps.getD i default)
def wQs (ps : List Rw) (c : Nat × Nat) (n : Nat) : Rat := wQ (qOf ps) c n
theorem wQ_short {ps : List Rw} {c : Nat × Nat} (hs : ∀ r ∈ ps, r.Short 3) (hok : ∀ r ∈ ps, r.Ok) : ∀ n, n ≤ ps.length → (canR (wQs ps c n)).Short (12 * n + 1) := by
  intro n
  induction n with
  | zero => intro _; exact one_short
  | succ n ih =>
    intro hn
    have ih := ih (by omega)
    have hx : ps.getD n default = ps[n] := by simp [List.getD_eq_getElem?_getD, show n < ps.length by omega]
    have hr := hok _ (List.getElem_mem (show n < ps.length by omega))
    have hr3 := hs _ (List.getElem_mem (show n < ps.length by omega))
    have e : wQs ps c (n + 1) = (wQs ps c n * if c.1.testBit n = true then qOf ps n else 1) * if c.2.testBit n = true then 1 - qOf ps n else 1 := rfl
    have eq : qOf ps n = ratOf ps[n] := by unfold qOf; rw [hx]
    have h1 : (canR (wQs ps c n * if c.1.testBit n = true then qOf ps n else 1)).Short (12 * n + 4) := by
      split
      · have h := short_mul (canR_ok (wQs ps c n)) hr ih hr3 (by omega) (by omega)
        rw [ratOf_can, ← eq] at h
        exact ⟨Nat.le_trans h.1 (by omega), Nat.le_trans h.2 (by omega)⟩
      · rw [Rat.mul_one]
        exact ⟨Nat.le_trans ih.1 (by omega), Nat.le_trans ih.2 (by omega)⟩
    have h2 : (canR (1 - qOf ps n)).Short 5 := by
      have h3 := short_neg hr hr3 (by omega)
      have h := short_add (canR_ok ((1 : Int) : Rat)) (canR_ok (- ratOf ps[n])) one_short h3 (by omega) (by omega)
      rw [ratOf_can, ratOf_can, ← eq, ← Rat.sub_eq_add_neg] at h
      exact h
    rw [e]
    generalize (wQs ps c n * if c.1.testBit n = true then qOf ps n else 1) = X at *
    split
    · have h := short_mul (canR_ok X) (canR_ok (1 - qOf ps n)) h1 h2 (by omega) (by omega)
      rw [ratOf_can, ratOf_can] at h
      exact ⟨Nat.le_trans h.1 (by omega), Nat.le_trans h.2 (by omega)⟩
    · rw [Rat.mul_one]
      exact ⟨Nat.le_trans h1.1 (by omega), Nat.le_trans h1.2 (by omega)⟩
def sumWs (ps : List Rw) (l : List (Nat × Nat)) (k : Nat) : Rat := sumW (qOf ps) ps.length (l.take k)
theorem sumW_snoc (q : Nat → Rat) (n : Nat) (l : List (Nat × Nat)) (c : Nat × Nat) : sumW q n (l ++ [c]) = sumW q n l + wQ q c n := by
  unfold sumW; rw [List.foldl_append]; rfl
theorem sumWs_succ {ps : List Rw} {l : List (Nat × Nat)} {k : Nat} (h : k < l.length) : sumWs ps l (k + 1) = sumWs ps l k + wQs ps l[k] ps.length := by
  unfold sumWs wQs
  rw [List.take_succ_eq_append_getElem h, sumW_snoc]
theorem sumWs_short {ps : List Rw} {l : List (Nat × Nat)} (hs : ∀ r ∈ ps, r.Short 3) (hok : ∀ r ∈ ps, r.Ok) (hp : ps.length ≤ 30) : ∀ k, k ≤ l.length → (canR (sumWs ps l k)).Short (362 * k + 1) := by
  intro k
  induction k with
  | zero => intro _; exact ⟨Nat.zero_le _, Nat.zero_le _⟩
  | succ k ih =>
    intro hk
    have ih := ih (by omega)
    have h1 := wQ_short (c := l[k]) hs hok ps.length (Nat.le_refl _)
    have h := short_add (canR_ok (sumWs ps l k)) (canR_ok (wQs ps l[k] ps.length)) ih h1 (by omega) (by omega)
    rw [ratOf_can, ratOf_can] at h
    rw [sumWs_succ (by omega)]
    exact ⟨Nat.le_trans h.1 (by omega), Nat.le_trans h.2 (by omega)⟩
end Go.Proofs.YtbkchheikkbebaaGreatDoor

/-
  Plain: the sums of inclusion and exclusion over fractions; how long they become; a slice of fractions in one block.
-/
namespace Go.Proofs.YtbkchheikkbebaaGreatDoor
open Go.RowKit

/-- The number of the error. -/
def incE (xs : List Int) (ps : List Rw) (k : Int) : Nat :=
  if chkI xs ≠ 0 then chkI xs else if 12 < xs.length then 4 else if (natsI xs).any (fun s => decide ((ps.length : Int) ≤ gtK s)) = true then 11 else if badR ps = true then 3 else if k < 0 ∨ 12 < k then 3 else 0
theorem pQ_prod (s : Nat) (ps : List Rw) : ∀ n, pQ (qOf ps) n s = prodQ s ps n := by
  intro n
  induction n with
  | zero => rfl
  | succ n ih =>
    rw [prodQ_succ, ← ih]
    show (pQ (qOf ps) n s * (if s.testBit n = true then qOf ps n else 1)) * (if (0 : Nat).testBit n = true then 1 - qOf ps n else 1) = _
    have e : (if (0 : Nat).testBit n = true then 1 - qOf ps n else (1 : Rat)) = 1 := if_neg (by simp)
    rw [e, Rat.mul_one]
    split
    · rfl
    · exact Rat.mul_one _
/-- The sum of the choices below m that choose k sets. -/
def sumR (ps : List Rw) (l : List Nat) (k m : Nat) : Rat := sumCh (qOf ps) ps.length l k m
theorem sumR_zero (ps : List Rw) (l : List Nat) (k : Nat) : sumR ps l k 0 = 0 := rfl
theorem sumR_hit {ps : List Rw} {l : List Nat} {k m : Nat} (h : pc m = k) : sumR ps l k (m + 1) = sumR ps l k m + prodQ (uniK l m l.length) ps ps.length := by
  show sumTo _ m + _ = _
  rw [← pQ_prod]
  simp only [h]
  rfl
theorem sumR_miss {ps : List Rw} {l : List Nat} {k m : Nat} (h : pc m ≠ k) : sumR ps l k (m + 1) = sumR ps l k m := by
  show sumTo _ m + _ = _
  simp only [if_neg h]
  exact Rat.add_zero _
/-- The sum over the choices of k sets. -/
def incR (ps : List Rw) (l : List Nat) (k : Nat) : Rat := incQ (qOf ps) ps.length l k 0
theorem sumR_all (ps : List Rw) (l : List Nat) (k : Nat) : sumR ps l k (2 ^ l.length) = incR ps l k := by
  have h := sumCh_inc (q := qOf ps) (n := ps.length) l.length l rfl k 0
  simp only [Nat.zero_or] at h
  exact h
theorem sumR_short {ps : List Rw} {l : List Nat} {k : Nat} (h30 : ps.length ≤ 30) (hs : ∀ r ∈ ps, r.Short 3) (hok : ∀ r ∈ ps, r.Ok) : ∀ m, (canR (sumR ps l k m)).Short (92 * m + 1) := by
  intro m
  induction m with
  | zero => exact ⟨Nat.zero_le _, Nat.zero_le _⟩
  | succ m ih =>
    by_cases h : pc m = k
    · have hp := prod_short (s := uniK l m l.length) hs hok ps.length (Nat.le_refl _)
      have h2 := short_add (canR_ok (sumR ps l k m)) (canR_ok (prodQ (uniK l m l.length) ps ps.length)) ih hp (by omega) (by omega)
      rw [ratOf_can, ratOf_can, ← sumR_hit h] at h2
      exact ⟨Nat.le_trans h2.1 (by omega), Nat.le_trans h2.2 (by omega)⟩
    · rw [sumR_miss h]
      exact ⟨Nat.le_trans ih.1 (by omega), Nat.le_trans ih.2 (by omega)⟩
/-- With what has been chosen already. -/
def incC (ps : List Rw) (l : List Nat) (k c : Nat) : Rat := incQ (qOf ps) ps.length l k c
theorem incC_zero (ps : List Rw) (l : List Nat) (c : Nat) : incC ps l 0 c = prodQ c ps ps.length := by
  unfold incC; rw [incQ_zero, pQ_prod]
theorem incC_cons (ps : List Rw) (s : Nat) (l : List Nat) (k c : Nat) : incC ps (s :: l) (k + 1) c = incC ps l k (c ||| s) + incC ps l (k + 1) c := rfl
theorem incC_short {ps : List Rw} (h30 : ps.length ≤ 30) (hs : ∀ r ∈ ps, r.Short 3) (hok : ∀ r ∈ ps, r.Ok) : ∀ {l : List Nat} {k c : Nat}, (canR (incC ps l k c)).Short (92 * 2 ^ l.length - 1) := by
  intro l
  induction l with
  | nil =>
    intro k c
    cases k with
    | zero =>
      rw [incC_zero]
      have hp := prod_short (s := c) hs hok ps.length (Nat.le_refl _)
      exact ⟨Nat.le_trans hp.1 (by simp; omega), Nat.le_trans hp.2 (by simp; omega)⟩
    | succ k => exact ⟨Nat.zero_le _, Nat.zero_le _⟩
  | cons s l ih =>
    intro k c
    have hp2 : 0 < 2 ^ l.length := Nat.two_pow_pos _
    cases k with
    | zero =>
      rw [incC_zero]
      have hp := prod_short (s := c) hs hok ps.length (Nat.le_refl _)
      rw [List.length_cons, Nat.pow_succ]
      exact ⟨Nat.le_trans hp.1 (by omega), Nat.le_trans hp.2 (by omega)⟩
    | succ k =>
      have h := short_add (canR_ok (incC ps l k (c ||| s))) (canR_ok (incC ps l (k + 1) c)) ih ih (by omega) (by omega)
      rw [ratOf_can, ratOf_can, ← incC_cons] at h
      rw [List.length_cons, Nat.pow_succ]
      exact ⟨Nat.le_trans h.1 (by omega), Nat.le_trans h.2 (by omega)⟩
theorem incR_short {ps : List Rw} (h30 : ps.length ≤ 30) (hs : ∀ r ∈ ps, r.Short 3) (hok : ∀ r ∈ ps, r.Ok) {l : List Nat} (hl : l.length ≤ 6) (k : Nat) : (canR (incR ps l k)).Short 5888 := by
  have h := incC_short (l := l) (k := k) (c := 0) h30 hs hok
  have h2 : 2 ^ l.length ≤ 2 ^ 6 := Nat.pow_le_pow_right (by decide) hl
  exact ⟨Nat.le_trans h.1 (by omega), Nat.le_trans h.2 (by omega)⟩
/-- The alternating sum. -/
def altR (ps : List Rw) (l : List Nat) (k : Nat) : Rat := altQ (qOf ps) ps.length l k
theorem altR_odd {ps : List Rw} {l : List Nat} {k : Nat} (h : (k + 1) % 2 = 1) : altR ps l (k + 1) = altR ps l k + incR ps l (k + 1) := by
  unfold altR incR; rw [altQ, if_pos h]
theorem altR_even {ps : List Rw} {l : List Nat} {k : Nat} (h : (k + 1) % 2 = 0) : altR ps l (k + 1) = altR ps l k - incR ps l (k + 1) := by
  unfold altR incR; rw [altQ, if_neg (by omega)]
theorem short_sub {r s : Rw} (hr : r.Ok) (hs : s.Ok) {k l : Nat} (h1 : r.Short k) (h2 : s.Short l) (hk : 1 ≤ k) (hl : 1 ≤ l) : (canR (ratOf r - ratOf s)).Short (k + l + 1) := by
  have h := short_add hr (canR_ok (- ratOf s)) h1 (short_neg hs h2 hl) hk hl
  rw [ratOf_can, ← Rat.sub_eq_add_neg] at h
  exact h
theorem altR_short {ps : List Rw} (h30 : ps.length ≤ 30) (hs : ∀ r ∈ ps, r.Short 3) (hok : ∀ r ∈ ps, r.Ok) {l : List Nat} (hl : l.length ≤ 6) : ∀ k, (canR (altR ps l k)).Short (5889 * k + 1) := by
  intro k
  induction k with
  | zero => exact ⟨Nat.zero_le _, Nat.zero_le _⟩
  | succ k ih =>
    have hi := incR_short h30 hs hok hl (k + 1)
    rcases Nat.mod_two_eq_zero_or_one (k + 1) with e | e
    · have h := short_sub (canR_ok (altR ps l k)) (canR_ok (incR ps l (k + 1))) ih hi (by omega) (by omega)
      rw [ratOf_can, ratOf_can, ← altR_even e] at h
      exact ⟨Nat.le_trans h.1 (by omega), Nat.le_trans h.2 (by omega)⟩
    · have h := short_add (canR_ok (altR ps l k)) (canR_ok (incR ps l (k + 1))) ih hi (by omega) (by omega)
      rw [ratOf_can, ratOf_can, ← altR_odd e] at h
      exact ⟨Nat.le_trans h.1 (by omega), Nat.le_trans h.2 (by omega)⟩
/-- The bounds. -/
def loR (ps : List Rw) (l : List Nat) (k : Nat) : Rat := bndLo (qOf ps) ps.length l k
def hiR (ps : List Rw) (l : List Nat) (k : Nat) : Rat := bndHi (qOf ps) ps.length l k
theorem loR_even {ps : List Rw} {l : List Nat} {k : Nat} (h : (k + 1) % 2 = 0) : loR ps l (k + 1) = maxQ (loR ps l k) (altR ps l (k + 1)) := by
  unfold loR altR; rw [bndLo, if_pos h]
theorem loR_odd {ps : List Rw} {l : List Nat} {k : Nat} (h : (k + 1) % 2 = 1) : loR ps l (k + 1) = loR ps l k := by
  unfold loR; rw [bndLo, if_neg (by omega)]
theorem hiR_even {ps : List Rw} {l : List Nat} {k : Nat} (h : (k + 1) % 2 = 0) : hiR ps l (k + 1) = hiR ps l k := by
  unfold hiR; rw [bndHi, if_pos h]
theorem hiR_odd {ps : List Rw} {l : List Nat} {k : Nat} (h : (k + 1) % 2 = 1) : hiR ps l (k + 1) = minQ (hiR ps l k) (altR ps l (k + 1)) := by
  unfold hiR altR; rw [bndHi, if_neg (by omega)]
theorem loR_zero (ps : List Rw) (l : List Nat) : loR ps l 0 = 0 := rfl
theorem hiR_zero (ps : List Rw) (l : List Nat) : hiR ps l 0 = 1 := rfl
theorem max_short {a b : Rat} {k l : Nat} (h1 : (canR a).Short k) (h2 : (canR b).Short l) (hkl : k ≤ l) : (canR (maxQ a b)).Short l := by
  unfold maxQ; split
  · exact ⟨Nat.le_trans h1.1 hkl, Nat.le_trans h1.2 hkl⟩
  · exact h2
theorem min_short {a b : Rat} {k l : Nat} (h1 : (canR a).Short k) (h2 : (canR b).Short l) (hkl : k ≤ l) : (canR (minQ a b)).Short l := by
  unfold minQ; split
  · exact ⟨Nat.le_trans h1.1 hkl, Nat.le_trans h1.2 hkl⟩
  · exact h2
theorem bnd_short {ps : List Rw} (h30 : ps.length ≤ 30) (hs : ∀ r ∈ ps, r.Short 3) (hok : ∀ r ∈ ps, r.Ok) {l : List Nat} (hl : l.length ≤ 6) : ∀ k, (canR (loR ps l k)).Short (5889 * k + 1) ∧ (canR (hiR ps l k)).Short (5889 * k + 1) := by
  intro k
  induction k with
  | zero => exact ⟨⟨Nat.zero_le _, Nat.zero_le _⟩, one_short⟩
  | succ k ih =>
    have ha := altR_short h30 hs hok hl (k + 1)
    have up : ∀ {r : Rw}, r.Short (5889 * k + 1) → r.Short (5889 * (k + 1) + 1) := fun h => ⟨Nat.le_trans h.1 (by omega), Nat.le_trans h.2 (by omega)⟩
    rcases Nat.mod_two_eq_zero_or_one (k + 1) with e | e
    · rw [loR_even e, hiR_even e]
      exact ⟨max_short ih.1 ha (by omega), up ih.2⟩
    · rw [loR_odd e, hiR_odd e]
      exact ⟨up ih.1, min_short ih.2 ha (by omega)⟩

theorem gt_pow {a n : Nat} (ha : a < 16777216) (h : gtK a < (n : Int)) : a < 2 ^ n := by
  have h64 : a < 2 ^ 64 := Nat.lt_of_lt_of_le ha (by decide)
  exact Nat.lt_of_lt_of_le (bitLen_lt h64) (Nat.pow_le_pow_right (by decide) (by unfold gtK at h; omega))
theorem pow_gt {a n : Nat} (hn : n ≤ 64) (h : a < 2 ^ n) : gtK a < (n : Int) := by
  have := Lib.bitLen_le a n hn h
  unfold gtK
  omega
theorem gt_or {a b n : Nat} (hn : n ≤ 64) (ha : a < 16777216) (hb : b < 16777216) (h1 : gtK a < (n : Int)) (h2 : gtK b < (n : Int)) : a ||| b < 16777216 ∧ gtK (a ||| b) < (n : Int) :=
  ⟨Nat.or_lt_two_pow (n := 24) ha hb, pow_gt hn (Nat.or_lt_two_pow (gt_pow ha h1) (gt_pow hb h2))⟩
theorem uni_ok {l : List Nat} {n : Nat} (hn : n ≤ 64) (hl : ∀ s ∈ l, s < 16777216 ∧ gtK s < (n : Int)) (ch : Nat) : ∀ m, uniK l ch m < 16777216 ∧ gtK (uniK l ch m) < (n : Int) := by
  intro m
  induction m with
  | zero => exact ⟨by show (0 : Nat) < _; decide, pow_gt hn (Nat.two_pow_pos _)⟩
  | succ m ih =>
    rw [uniK]
    split
    · by_cases hm : m < l.length
      · have e : l.getD m 0 = l[m] := by simp [List.getD_eq_getElem?_getD, hm]
        have h := hl _ (List.getElem_mem hm)
        rw [e]
        exact gt_or hn ih.1 h.1 ih.2 h.2
      · have e : l.getD m 0 = 0 := by simp [List.getD_eq_getElem?_getD, Nat.le_of_not_lt hm]
        rw [e, Nat.or_zero]
        exact ih
    · exact ih
theorem pc_most : ∀ n c : Nat, c < 2 ^ n → pc c ≤ n := by
  intro n
  induction n with
  | zero => intro c h; have : c = 0 := by simpa using h
            rw [this, pc_0]; exact Nat.le_refl _
  | succ n ih =>
    intro c h
    rw [pc]
    split
    · omega
    · have := ih (c / 2) (by rw [Nat.pow_succ] at h; omega)
      omega
/-- Fractions in one block of these cells alone. -/
def ArrAt (w : World) (g : Nat) (e : TypeId) (rs : List Rw) : Prop :=
  ∃ L : List RwV, L.map Prod.fst = rs ∧ RowAt w g e (L.flatMap rwC) ∧ FixAt w g (L.flatMap rwC) ∧ ∀ x ∈ L, RwOk w x
theorem ArrAt.kept {w w' : World} {g : Nat} {t : TypeId} {rs : List Rw} (h : ArrAt w g t rs) (hk : Kept w w') : ArrAt w' g t rs := by
  obtain ⟨L, h1, h2, h3, h4⟩ := h
  exact ⟨L, h1, h2.kept hk, h3.kept hk, fun x hx => (h4 x hx).kept hk⟩
theorem rw_noint {w : World} {L : List RwV} (h : ∀ x ∈ L, RwOk w x) : ∀ k x, Value.int k x ∉ L.flatMap rwC := by
  intro k x hx
  obtain ⟨c, hc, h2⟩ := List.mem_flatMap.1 hx
  obtain ⟨a1, c1, e1⟩ := (h c hc).1.shape
  obtain ⟨a2, c2, e2⟩ := (h c hc).2.shape
  simp [rwC, e1, e2] at h2
theorem rw_set (L : List RwV) (y : RwV) : ∀ i, i < L.length → (L.set i y).flatMap rwC = (((L.flatMap rwC).set (i * 3) (.bool y.1.neg)).set (i * 3 + 1) y.2.1).set (i * 3 + 2) y.2.2 := by
  induction L with
  | nil => intro i h; simp at h
  | cons c L ih =>
    intro i h
    cases i with
    | zero => simp [rwC]
    | succ i =>
      rw [List.set_cons_succ, List.flatMap_cons, List.flatMap_cons, ih i (by simpa using h)]
      have e : ∀ (X Y : List Value) (j : Nat) (u : Value), X.length = 3 → (X ++ Y).set ((i + 1) * 3 + j) u = X ++ Y.set (i * 3 + j) u := fun X Y j u hX => by
        rw [List.set_append_right _ _ (by omega), hX]; congr 2; omega
      have e0 := fun (X Y : List Value) (u : Value) (hX : X.length = 3) => e X Y 0 u hX
      simp only [Nat.add_zero] at e0
      rw [e0 _ _ _ rfl, e _ _ 1 _ rfl, e _ _ 2 _ rfl]
theorem ArrAt.store {w : World} {g : Nat} {t : TypeId} {rs : List Rw} (h : ArrAt w g t rs) (i : Nat) (hi : i < rs.length) {r : Rw} {u1 u2 : Value} (h1 : WdsAt w u1 r.num) (h2 : WdsAt w u2 r.den) :
    ArrAt (((w.setCell ⟨g, i * 3, none⟩ (.bool r.neg)).setCell ⟨g, i * 3 + 1, none⟩ u1).setCell ⟨g, i * 3 + 2, none⟩ u2) g t (rs.set i r) := by
  obtain ⟨L, e, h3, h4, h5⟩ := h
  have hl : i < L.length := by rw [← e, List.length_map] at hi; exact hi
  have hO := (((OnlyAt.refl g w).store (i * 3) (.bool r.neg)).store (i * 3 + 1) u1).store (i * 3 + 2) u2
  have hn := rw_noint h5
  refine ⟨L.set i (r, u1, u2), by rw [List.map_set, e], ?_, ?_, fun x hx => ?_⟩
  · rw [rw_set L (r, u1, u2) i hl]
    exact ((h3.store _ _).store _ _).store _ _
  · rw [rw_set L (r, u1, u2) i hl]
    exact ((h4.store _ _).store _ _).store _ _
  · rcases List.mem_or_eq_of_mem_set hx with hx | rfl
    · exact ⟨(h5 x hx).1.apart h4 hn hO, (h5 x hx).2.apart h4 hn hO⟩
    · exact ⟨h1.apart h4 hn hO, h2.apart h4 hn hO⟩
theorem ArrAt.at {w : World} {g : Nat} {t : TypeId} {rs : List Rw} (h : ArrAt w g t rs) (i : Nat) (hi : i < rs.length) : ∃ a1 c1 a2 c2, (w.cell? ⟨g, i * 3, none⟩ = some (.bool (rs.getD i default).neg) ∧ w.cell? ⟨g, i * 3 + 1, none⟩ = some (.slice a1 (rs.getD i default).num.length c1) ∧ w.cell? ⟨g, i * 3 + 2, none⟩ = some (.slice a2 (rs.getD i default).den.length c2)) ∧ (∀ j, w.frozen? ⟨g, j, none⟩ = false) ∧ g < w.heap.size ∧ WdsAt w (.slice a1 (rs.getD i default).num.length c1) (rs.getD i default).num ∧ WdsAt w (.slice a2 (rs.getD i default).den.length c2) (rs.getD i default).den := by
  obtain ⟨L, e, h3, h4, h5⟩ := h
  have hl : i < L.length := by rw [← e, List.length_map] at hi; exact hi
  have ed : rs.getD i default = L[i].1 := by rw [← e]; simp [List.getD_eq_getElem?_getD, hl]
  have hok := h5 _ (List.getElem_mem hl)
  obtain ⟨a1, c1, e1⟩ := hok.1.shape
  obtain ⟨a2, c2, e2⟩ := hok.2.shape
  have hcell : ∀ j, j < 3 → ∀ u, (rwC L[i])[j]? = some u → w.cell? ⟨g, i * 3 + j, none⟩ = some u := fun j hj u hu => by
    have h6 := rw_get L i hl j hj
    rw [hu] at h6
    obtain ⟨h7, h8⟩ := List.getElem?_eq_some_iff.1 h6
    rw [h3.cell h7, h8]
  rw [ed]
  refine ⟨a1, c1, a2, c2, ⟨?_, ?_, ?_⟩, fun j => h3.free j, h3.lt, by rw [← e1]; exact hok.1, by rw [← e2]; exact hok.2⟩
  · exact hcell 0 (by decide) _ rfl
  · rw [← e1]; exact hcell 1 (by decide) _ rfl
  · rw [← e2]; exact hcell 2 (by decide) _ rfl
theorem ArrAt.rats {w : World} {g : Nat} {t : TypeId} {rs : List Rw} (h : ArrAt w g t rs) {n c : Nat} (hn : n = rs.length) (hc : n ≤ c) (hl : n ≤ 140737488355328) : RatsAt w (.slice (some ⟨g, 0, none⟩) n c) rs := by
  subst hn
  refine ⟨_, c, rfl, ⟨hc, fun h => by cases h⟩, hl, fun i hi => ?_⟩
  obtain ⟨a1, c1, a2, c2, ⟨x0, x1, x2⟩, _, _, y1, y2⟩ := h.at i hi
  have e : rs.getD i default = rs[i] := by simp [List.getD_eq_getElem?_getD, hi]
  rw [e] at x0 x1 x2 y1 y2
  refine ⟨g, 0, _, _, rfl, fun j u hj => ?_, y1, y2⟩
  rw [Nat.zero_add]
  match j, hj with
  | 0, hj => simp at hj; subst hj; exact x0
  | 1, hj => simp at hj; subst hj; exact x1
  | 2, hj => simp at hj; subst hj; exact x2
theorem made_rats (n : Nat) : (madeCells (Value.agg #[.bool false, .slice none 0 0, .slice none 0 0]).cells (n * 3)).toList = (List.replicate n ((⟨false, [], []⟩, .slice none 0 0, .slice none 0 0) : RwV)).flatMap rwC := by
  induction n with
  | zero => simp [madeCells]
  | succ n ih =>
    apply List.ext_getElem
    · simp [madeCells, rwC]
    · intro i h1 h2
      rw [← Option.some_inj, ← List.getElem?_eq_getElem h2]
      have hi : i < (n + 1) * 3 := by simpa [madeCells] using h1
      have e : i = i / 3 * 3 + i % 3 := by omega
      have hg := rw_get (List.replicate (n + 1) ((⟨false, [], []⟩, .slice none 0 0, .slice none 0 0) : RwV)) (i / 3) (by simp; omega) (i % 3) (Nat.mod_lt _ (by decide))
      rw [← e] at hg
      rw [hg, List.getElem_replicate]
      have h3 : i % 3 < 3 := Nat.mod_lt _ (by decide)
      simp only [madeCells, Value.cells, Array.getElem_toList]
      have hs : (#[Value.bool false, .slice none 0 0, .slice none 0 0] : Array Value).size = 3 := rfl
      rcases (show i % 3 = 0 ∨ i % 3 = 1 ∨ i % 3 = 2 by omega) with h | h | h <;> simp [rwC, h]
/-- make of n fractions. -/
theorem make_rat {ops : Array Oper} {rest : List Oper} {o : Oper} {a : Act} {Q : Exit → Act → World → Prop} {w : World} (hg : o.guard = none) (l c : Operand)
    (hop : o.op = Op.makeSlice 35 l c) (n : Nat) (hl : a.eval l = .int .i64 n) (hc : a.eval c = .int .i64 n) (hm : n ≤ 1099511627776)
    (hK : ∀ w', ArrAt w' w.heap.size 39 (List.replicate n ⟨false, [], []⟩) → Kept w w' → wpList Tryz.prog ops Q rest (a.put o.dst (.slice (some ⟨w.heap.size, 0, none⟩) n n)) w') : wpList Tryz.prog ops Q (o :: rest) a w := by
  obtain ⟨i0, hi0, hz0, hz1, hz2⟩ := info_parts info_rat
  refine wpList_make_full w hg l c 35 hop w.heap.size 39 i0 _ 3 Tryz.underlying35 hi0 hz0 hz1 .i64 .i64 _ _ n hl hc rfl rfl (by rw [hz2]; omega) (by unfold maxLen; omega) (Nat.le_refl _) ?_
  intro w' h1 h2
  rw [made_rats n] at h1
  refine hK w' ?_ ⟨h2.os, h2.tape, h2.output, h2.size, fun k hk => h2.block k hk (by simp)⟩
  obtain ⟨h3, h4⟩ := h1
  rcases h4 with ⟨h4, _⟩ | ⟨g, cap, cur, h4, h5, h6, h7, h8, h9, h10⟩
  · cases h4
  · cases h4
    have hlen := len_rw (List.replicate n ((⟨false, [], []⟩, .slice none 0 0, .slice none 0 0) : RwV))
    rw [List.length_replicate] at hlen
    have e : cur.toList = (List.replicate n ((⟨false, [], []⟩, .slice none 0 0, .slice none 0 0) : RwV)).flatMap rwC := by
      rw [← h10, List.take_of_length_le (by rw [Array.length_toList, h9]; exact Nat.le_refl _)]
    refine ⟨List.replicate n (⟨false, [], []⟩, .slice none 0 0, .slice none 0 0), by rw [List.map_replicate], ⟨cur, h6, by rw [hlen, h9]; exact Nat.le_refl _, by rw [List.take_of_length_le (by rw [hlen, Array.length_toList, h9]; exact Nat.le_refl _), e]⟩, ⟨cur, _, h6, e⟩, fun x hx => ?_⟩
    rw [(List.mem_replicate.1 hx).2]
    exact ⟨WdsAt.nil _, WdsAt.nil _⟩
end Go.Proofs.YtbkchheikkbebaaGreatDoor

/-
  Spans: a value, a variable's cells, a result's cells.
-/
namespace Go.Proofs.YtbkchheikkbebaaGreatDoor
open Go.RowKit

/-- A span as a value. -/
def SpanV (w : World) (v : Value) (lo hi : Rw) : Prop :=
  ∃ u1 u2 u3 u4, v = .agg #[.bool lo.neg, u1, u2, .bool hi.neg, u3, u4] ∧ WdsAt w u1 lo.num ∧ WdsAt w u2 lo.den ∧ WdsAt w u3 hi.num ∧ WdsAt w u4 hi.den
theorem SpanV.kept {w w' : World} {v : Value} {lo hi : Rw} (h : SpanV w v lo hi) (hk : Kept w w') : SpanV w' v lo hi := by
  obtain ⟨u1, u2, u3, u4, h0, h1, h2, h3, h4⟩ := h
  exact ⟨u1, u2, u3, u4, h0, h1.kept hk, h2.kept hk, h3.kept hk, h4.kept hk⟩
/-- The six cells of a span. -/
theorem SpanV.shape {w : World} {v : Value} {lo hi : Rw} (h : SpanV w v lo hi) : ∃ a1 c1 a2 c2 a3 c3 a4 c4, v = .agg #[.bool lo.neg, .slice a1 lo.num.length c1, .slice a2 lo.den.length c2, .bool hi.neg, .slice a3 hi.num.length c3, .slice a4 hi.den.length c4] ∧
    WdsAt w (.slice a1 lo.num.length c1) lo.num ∧ WdsAt w (.slice a2 lo.den.length c2) lo.den ∧ WdsAt w (.slice a3 hi.num.length c3) hi.num ∧ WdsAt w (.slice a4 hi.den.length c4) hi.den := by
  obtain ⟨u1, u2, u3, u4, h0, h1, h2, h3, h4⟩ := h
  obtain ⟨a1, c1, rfl⟩ := h1.shape
  obtain ⟨a2, c2, rfl⟩ := h2.shape
  obtain ⟨a3, c3, rfl⟩ := h3.shape
  obtain ⟨a4, c4, rfl⟩ := h4.shape
  exact ⟨a1, c1, a2, c2, a3, c3, a4, c4, h0, h1, h2, h3, h4⟩
/-- A variable that holds a span. -/
def SpnAt (w : World) (g : Nat) (lo hi : Rw) : Prop := ArrAt w g 61 [lo, hi]
theorem SpnAt.kept {w w' : World} {g : Nat} {lo hi : Rw} (h : SpnAt w g lo hi) (hk : Kept w w') : SpnAt w' g lo hi := ArrAt.kept h hk
theorem SpnAt.made {w : World} {lo hi : Rw} {u1 u2 u3 u4 : Value} (h1 : WdsAt w u1 lo.num) (h2 : WdsAt w u2 lo.den) (h3 : WdsAt w u3 hi.num) (h4 : WdsAt w u4 hi.den) :
    SpnAt (w.alloc (.cells #[.bool lo.neg, u1, u2, .bool hi.neg, u3, u4] 61)) w.heap.size lo hi := by
  have hk : Kept w (w.alloc (.cells #[.bool lo.neg, u1, u2, .bool hi.neg, u3, u4] 61)) := (Kept.refl _).alloc _
  refine ⟨[(lo, u1, u2), (hi, u3, u4)], rfl, RowAt.made w #[.bool lo.neg, u1, u2, .bool hi.neg, u3, u4] 61, FixAt.made w #[.bool lo.neg, u1, u2, .bool hi.neg, u3, u4] 61, fun x hx => ?_⟩
  rcases List.mem_cons.1 hx with rfl | hx
  · exact ⟨h1.kept hk, h2.kept hk⟩
  · rw [List.mem_singleton] at hx; subst hx; exact ⟨h3.kept hk, h4.kept hk⟩
theorem SpnAt.at {w : World} {g : Nat} {lo hi : Rw} (h : SpnAt w g lo hi) : ∃ a1 c1 a2 c2 a3 c3 a4 c4,
    (w.cell? ⟨g, 0, none⟩ = some (.bool lo.neg) ∧ w.cell? ⟨g, 1, none⟩ = some (.slice a1 lo.num.length c1) ∧ w.cell? ⟨g, 2, none⟩ = some (.slice a2 lo.den.length c2) ∧
     w.cell? ⟨g, 3, none⟩ = some (.bool hi.neg) ∧ w.cell? ⟨g, 4, none⟩ = some (.slice a3 hi.num.length c3) ∧ w.cell? ⟨g, 5, none⟩ = some (.slice a4 hi.den.length c4)) ∧
    (∀ j, w.frozen? ⟨g, j, none⟩ = false) ∧ g < w.heap.size ∧ WdsAt w (.slice a1 lo.num.length c1) lo.num ∧ WdsAt w (.slice a2 lo.den.length c2) lo.den ∧ WdsAt w (.slice a3 hi.num.length c3) hi.num ∧ WdsAt w (.slice a4 hi.den.length c4) hi.den := by
  obtain ⟨a1, c1, a2, c2, ⟨x0, x1, x2⟩, hf, hl, y1, y2⟩ := ArrAt.at h 0 (by simp)
  obtain ⟨a3, c3, a4, c4, ⟨x3, x4, x5⟩, _, _, y3, y4⟩ := ArrAt.at h 1 (by simp)
  exact ⟨a1, c1, a2, c2, a3, c3, a4, c4, ⟨x0, x1, x2, x3, x4, x5⟩, hf, hl, y1, y2, y3, y4⟩
theorem SpnAt.lo {w : World} {g : Nat} {lo hi r : Rw} {u1 u2 : Value} (h : SpnAt w g lo hi) (h1 : WdsAt w u1 r.num) (h2 : WdsAt w u2 r.den) :
    SpnAt (((w.setCell ⟨g, 0, none⟩ (.bool r.neg)).setCell ⟨g, 1, none⟩ u1).setCell ⟨g, 2, none⟩ u2) g r hi := ArrAt.store h 0 (by simp) h1 h2
theorem SpnAt.hi {w : World} {g : Nat} {lo hi r : Rw} {u1 u2 : Value} (h : SpnAt w g lo hi) (h1 : WdsAt w u1 r.num) (h2 : WdsAt w u2 r.den) :
    SpnAt (((w.setCell ⟨g, 3, none⟩ (.bool r.neg)).setCell ⟨g, 4, none⟩ u1).setCell ⟨g, 5, none⟩ u2) g lo r := ArrAt.store h 1 (by simp) h1 h2
/-- A span's result cells, stored. -/
theorem span_stored {w : World} {g : Nat} {lo hi lo0 hi0 : Rw} {u1 u2 u3 u4 : Value} (h : SpnAt w g lo0 hi0) (h1 : WdsAt w u1 lo.num) (h2 : WdsAt w u2 lo.den) (h3 : WdsAt w u3 hi.num) (h4 : WdsAt w u4 hi.den) :
    ∃ w', w' = (((((w.setCell ⟨g, 0, none⟩ (.bool lo.neg)).setCell ⟨g, 1, none⟩ u1).setCell ⟨g, 2, none⟩ u2).setCell ⟨g, 3, none⟩ (.bool hi.neg)).setCell ⟨g, 4, none⟩ u3).setCell ⟨g, 5, none⟩ u4 ∧
    (w'.cell? ⟨g, 0, none⟩ = some (.bool lo.neg) ∧ w'.cell? ⟨g, 1, none⟩ = some u1 ∧ w'.cell? ⟨g, 2, none⟩ = some u2 ∧ w'.cell? ⟨g, 3, none⟩ = some (.bool hi.neg) ∧ w'.cell? ⟨g, 4, none⟩ = some u3 ∧ w'.cell? ⟨g, 5, none⟩ = some u4) ∧
    SpanV w' (.agg #[.bool lo.neg, u1, u2, .bool hi.neg, u3, u4]) lo hi := by
  refine ⟨_, rfl, ?_, ?_⟩
  · obtain ⟨L, e, hr, _, _⟩ := h
    match L, e with
    | [x, y], _ =>
      have hr2 := (((((hr.store 0 (.bool lo.neg)).store 1 u1).store 2 u2).store 3 (.bool hi.neg)).store 4 u3).store 5 u4
      have c := fun i (hi : i < 6) => hr2.cell (i := i) (by simpa [rwC] using hi)
      exact ⟨c 0 (by omega), c 1 (by omega), c 2 (by omega), c 3 (by omega), c 4 (by omega), c 5 (by omega)⟩
  · obtain ⟨L, e, _, hf, hk⟩ := h
    have hO := ((((((OnlyAt.refl g w).store 0 (.bool lo.neg)).store 1 u1).store 2 u2).store 3 (.bool hi.neg)).store 4 u3).store 5 u4
    have hn := rw_noint hk
    exact ⟨_, _, _, _, rfl, h1.apart hf hn hO, h2.apart hf hn hO, h3.apart hf hn hO, h4.apart hf hn hO⟩
theorem ArrAt.fix {w : World} {g : Nat} {t : TypeId} {rs : List Rw} (h : ArrAt w g t rs) : ∃ row, FixAt w g row ∧ ∀ k x, Value.int k x ∉ row := by
  obtain ⟨L, _, _, hf, hk⟩ := h
  exact ⟨_, hf, rw_noint hk⟩
/-- What a store into one block of fractions leaves. -/
theorem ArrAt.apart {w w' : World} {p g : Nat} {t t' : TypeId} {rs rs' : List Rw} (h : ArrAt w p t rs) (hne : p ≠ g) (hg : ArrAt w g t' rs') (ho : OnlyAt g w w') : ArrAt w' p t rs := by
  obtain ⟨row, hf, hn⟩ := hg.fix
  obtain ⟨L, e, h1, h2, h3⟩ := h
  refine ⟨L, e, ho.row h1 hne, ?_, fun x hx => ⟨(h3 x hx).1.apart hf hn ho, (h3 x hx).2.apart hf hn ho⟩⟩
  have hl := h2.lt
  obtain ⟨cur, e2, k1, k2⟩ := h2
  exact ⟨cur, e2, (ho.block p hl hne).trans k1, k2⟩
theorem RatsAt.apart {w w' : World} {b g n c : Nat} {t : TypeId} {ps rs : List Rw} (h : RatsAt w (.slice (some ⟨b, 0, none⟩) n c) ps) (hne : b ≠ g) (hg : ArrAt w g t rs) (ho : OnlyAt g w w') : RatsAt w' (.slice (some ⟨b, 0, none⟩) n c) ps := by
  obtain ⟨row, hf, hn⟩ := hg.fix
  obtain ⟨a, c', h1, h2, h3, h4⟩ := h
  injection h1 with e1 e2 e3
  subst e1 e2 e3
  refine ⟨_, _, rfl, h2, h3, fun i hi => ?_⟩
  obtain ⟨b', o', u1, u2, k1, k2, k3, k4⟩ := h4 i hi
  cases k1
  refine ⟨b, 0, u1, u2, rfl, fun j v hj => ?_, k3.apart hf hn ho, k4.apart hf hn ho⟩
  have hc := k2 j v hj
  have hlt := World.block_lt_of_cell? _ _ hc
  have := ho.block b hlt hne
  simp only [World.cell?, this] at hc ⊢
  exact hc
end Go.Proofs.YtbkchheikkbebaaGreatDoor

/-
  Fractions and spans in boxes: what is laid, what is read again, what is stored.
-/
namespace Go.Proofs.YtbkchheikkbebaaGreatDoor
open Go.RowKit

theorem SpnAt.zero (w : World) : SpnAt (w.alloc (.cells #[.bool false, .slice none 0 0, .slice none 0 0, .bool false, .slice none 0 0, .slice none 0 0] 61)) w.heap.size ⟨false, [], []⟩ ⟨false, [], []⟩ :=
  SpnAt.made (lo := ⟨false, [], []⟩) (hi := ⟨false, [], []⟩) (WdsAt.nil _) (WdsAt.nil _) (WdsAt.nil _) (WdsAt.nil _)
theorem RatCell.zero (w : World) : RatCell (w.alloc (.cells #[.bool false, .slice none 0 0, .slice none 0 0] 39)) w.heap.size ⟨false, [], []⟩ :=
  RatCell.made (r := ⟨false, [], []⟩) (WdsAt.nil w) (WdsAt.nil w)
theorem RatAt.parts {w : World} {v : Value} {r : Rw} (h : RatAt w v r) : ∃ n l m a1 c1 a2 c2, v = .agg #[.bool n, .slice a1 l c1, .slice a2 m c2] := by
  obtain ⟨u1, u2, rfl, h1, h2⟩ := h
  obtain ⟨a1, c1, rfl⟩ := h1.shape
  obtain ⟨a2, c2, rfl⟩ := h2.shape
  exact ⟨_, _, _, _, _, _, _, rfl⟩
/-- A fraction that is returned, and the block in which it is laid. -/
theorem RatAt.box {w : World} {v : Value} {r : Rw} (h : RatAt w v r) : ∃ n l m a1 c1 a2 c2 w', v = .agg #[.bool n, .slice a1 l c1, .slice a2 m c2] ∧ w' = w.alloc (.cells #[.bool n, .slice a1 l c1, .slice a2 m c2] 39) ∧
    RatCell w' w.heap.size r ∧ Kept w w' ∧ RatAt w' (.agg #[.bool n, .slice a1 l c1, .slice a2 m c2]) r ∧ w'.heap.size = w.heap.size + 1 := by
  obtain ⟨u1, u2, rfl, h1, h2⟩ := h
  obtain ⟨a1, c1, rfl⟩ := h1.shape
  obtain ⟨a2, c2, rfl⟩ := h2.shape
  exact ⟨_, _, _, _, _, _, _, _, rfl, rfl, RatCell.made h1 h2, (Kept.refl _).alloc _, ⟨_, _, rfl, h1.kept ((Kept.refl _).alloc _), h2.kept ((Kept.refl _).alloc _)⟩, by simp⟩
/-- A fraction that is read again. -/
theorem RatCell.read {w : World} {g : Nat} {r : Rw} (h : RatCell w g r) : ∃ n l m a1 c1 a2 c2, w.cell? ⟨g, 0, none⟩ = some (.bool n) ∧ w.cell? ⟨g, 1, none⟩ = some (.slice a1 l c1) ∧ w.cell? ⟨g, 2, none⟩ = some (.slice a2 m c2) ∧ g < w.heap.size ∧
    Hid (RatAt w (.agg #[.bool n, .slice a1 l c1, .slice a2 m c2]) r) := by
  obtain ⟨a1, c1, a2, c2, ⟨x0, x1, x2⟩, _, hl, hx⟩ := h.at
  exact ⟨_, _, _, _, _, _, _, x0, x1, x2, hl, Lib.hid hx⟩
/-- A span that is returned, and the block in which it is laid. -/
theorem SpanV.box {w : World} {v : Value} {lo hi : Rw} (h : SpanV w v lo hi) : ∃ n1 l1 m1 n2 l2 m2 a1 c1 a2 c2 a3 c3 a4 c4 w', v = .agg #[.bool n1, .slice a1 l1 c1, .slice a2 m1 c2, .bool n2, .slice a3 l2 c3, .slice a4 m2 c4] ∧
    w' = w.alloc (.cells #[.bool n1, .slice a1 l1 c1, .slice a2 m1 c2, .bool n2, .slice a3 l2 c3, .slice a4 m2 c4] 61) ∧
    SpnAt w' w.heap.size lo hi ∧ Kept w w' ∧ SpanV w' (.agg #[.bool n1, .slice a1 l1 c1, .slice a2 m1 c2, .bool n2, .slice a3 l2 c3, .slice a4 m2 c4]) lo hi ∧ w'.heap.size = w.heap.size + 1 := by
  obtain ⟨a1, c1, a2, c2, a3, c3, a4, c4, rfl, h1, h2, h3, h4⟩ := h.shape
  exact ⟨_, _, _, _, _, _, _, _, _, _, _, _, _, _, _, rfl, rfl, SpnAt.made h1 h2 h3 h4, (Kept.refl _).alloc _, h.kept ((Kept.refl _).alloc _), by simp⟩
/-- Two fractions that are read again. -/
theorem ArrAt.read2 {w : World} {g : Nat} {t : TypeId} {lo hi : Rw} (h : ArrAt w g t [lo, hi]) : ∃ n1 l1 m1 n2 l2 m2 a1 c1 a2 c2 a3 c3 a4 c4,
    w.cell? ⟨g, 0, none⟩ = some (.bool n1) ∧ w.cell? ⟨g, 1, none⟩ = some (.slice a1 l1 c1) ∧ w.cell? ⟨g, 2, none⟩ = some (.slice a2 m1 c2) ∧
    w.cell? ⟨g, 3, none⟩ = some (.bool n2) ∧ w.cell? ⟨g, 4, none⟩ = some (.slice a3 l2 c3) ∧ w.cell? ⟨g, 5, none⟩ = some (.slice a4 m2 c4) ∧ g < w.heap.size ∧
    Hid (RatAt w (.agg #[.bool n1, .slice a1 l1 c1, .slice a2 m1 c2]) lo) ∧ Hid (RatAt w (.agg #[.bool n2, .slice a3 l2 c3, .slice a4 m2 c4]) hi) ∧
    Hid (SpanV w (.agg #[.bool n1, .slice a1 l1 c1, .slice a2 m1 c2, .bool n2, .slice a3 l2 c3, .slice a4 m2 c4]) lo hi) := by
  obtain ⟨a1, c1, a2, c2, ⟨x0, x1, x2⟩, _, hl, y1, y2⟩ := ArrAt.at h 0 (by simp)
  obtain ⟨a3, c3, a4, c4, ⟨x3, x4, x5⟩, _, _, y3, y4⟩ := ArrAt.at h 1 (by simp)
  exact ⟨_, _, _, _, _, _, _, _, _, _, _, _, _, _, x0, x1, x2, x3, x4, x5, hl, Lib.hid ⟨_, _, rfl, y1, y2⟩, Lib.hid ⟨_, _, rfl, y3, y4⟩, Lib.hid ⟨_, _, _, _, rfl, y1, y2, y3, y4⟩⟩
/-- A span that is read again. -/
theorem SpnAt.read {w : World} {g : Nat} {lo hi : Rw} (h : SpnAt w g lo hi) : ∃ n1 l1 m1 n2 l2 m2 a1 c1 a2 c2 a3 c3 a4 c4,
    w.cell? ⟨g, 0, none⟩ = some (.bool n1) ∧ w.cell? ⟨g, 1, none⟩ = some (.slice a1 l1 c1) ∧ w.cell? ⟨g, 2, none⟩ = some (.slice a2 m1 c2) ∧
    w.cell? ⟨g, 3, none⟩ = some (.bool n2) ∧ w.cell? ⟨g, 4, none⟩ = some (.slice a3 l2 c3) ∧ w.cell? ⟨g, 5, none⟩ = some (.slice a4 m2 c4) ∧ g < w.heap.size ∧
    Hid (RatAt w (.agg #[.bool n1, .slice a1 l1 c1, .slice a2 m1 c2]) lo) ∧ Hid (RatAt w (.agg #[.bool n2, .slice a3 l2 c3, .slice a4 m2 c4]) hi) ∧
    Hid (SpanV w (.agg #[.bool n1, .slice a1 l1 c1, .slice a2 m1 c2, .bool n2, .slice a3 l2 c3, .slice a4 m2 c4]) lo hi) := ArrAt.read2 h
/-- A span that is stored into a variable of the call's own. -/
theorem SpnAt.put {w : World} {g : Nat} {v : Value} {lo0 hi0 lo hi : Rw} (h : SpnAt w g lo0 hi0) (hv : SpanV w v lo hi) : ∃ n1 l1 m1 n2 l2 m2 a1 c1 a2 c2 a3 c3 a4 c4 w', v = .agg #[.bool n1, .slice a1 l1 c1, .slice a2 m1 c2, .bool n2, .slice a3 l2 c3, .slice a4 m2 c4] ∧
    w' = (((((w.setCell ⟨g, 0, none⟩ (.bool n1)).setCell ⟨g, 1, none⟩ (.slice a1 l1 c1)).setCell ⟨g, 2, none⟩ (.slice a2 m1 c2)).setCell ⟨g, 3, none⟩ (.bool n2)).setCell ⟨g, 4, none⟩ (.slice a3 l2 c3)).setCell ⟨g, 5, none⟩ (.slice a4 m2 c4) ∧
    ((∃ z, w.cell? ⟨g, 0, none⟩ = some z) ∧ (∃ z, w.cell? ⟨g, 1, none⟩ = some z) ∧ (∃ z, w.cell? ⟨g, 2, none⟩ = some z) ∧ (∃ z, w.cell? ⟨g, 3, none⟩ = some z) ∧ (∃ z, w.cell? ⟨g, 4, none⟩ = some z) ∧ (∃ z, w.cell? ⟨g, 5, none⟩ = some z)) ∧
    (w.frozen? ⟨g, 0, none⟩ = false ∧ w.frozen? ⟨g, 1, none⟩ = false ∧ w.frozen? ⟨g, 2, none⟩ = false ∧ w.frozen? ⟨g, 3, none⟩ = false ∧ w.frozen? ⟨g, 4, none⟩ = false ∧ w.frozen? ⟨g, 5, none⟩ = false) ∧ g < w.heap.size ∧
    Hid (w'.cell? ⟨g, 0, none⟩ = some (.bool n1) ∧ w'.cell? ⟨g, 1, none⟩ = some (.slice a1 l1 c1) ∧ w'.cell? ⟨g, 2, none⟩ = some (.slice a2 m1 c2) ∧ w'.cell? ⟨g, 3, none⟩ = some (.bool n2) ∧ w'.cell? ⟨g, 4, none⟩ = some (.slice a3 l2 c3) ∧ w'.cell? ⟨g, 5, none⟩ = some (.slice a4 m2 c4)) ∧
    Hid (SpanV w' (.agg #[.bool n1, .slice a1 l1 c1, .slice a2 m1 c2, .bool n2, .slice a3 l2 c3, .slice a4 m2 c4]) lo hi) ∧ Hid (SpnAt w' g lo hi) ∧ Hid (OnlyAt g w w') ∧ Hid (∀ W, Kept W w → W.heap.size ≤ g → Kept W w') := by
  obtain ⟨a1, c1, a2, c2, a3, c3, a4, c4, rfl, h1, h2, h3, h4⟩ := hv.shape
  obtain ⟨_, _, _, _, _, _, _, _, ⟨x0, x1, x2, x3, x4, x5⟩, hf, hl, _⟩ := h.at
  obtain ⟨w', hw', hy, hsp⟩ := span_stored h h1 h2 h3 h4
  refine ⟨_, _, _, _, _, _, _, _, _, _, _, _, _, _, w', rfl, hw', ⟨⟨_, x0⟩, ⟨_, x1⟩, ⟨_, x2⟩, ⟨_, x3⟩, ⟨_, x4⟩, ⟨_, x5⟩⟩, ⟨hf 0, hf 1, hf 2, hf 3, hf 4, hf 5⟩, hl, Lib.hid hy, Lib.hid hsp, Lib.hid ?_, Lib.hid ?_, Lib.hid fun W hk hg => ?_⟩
  · obtain ⟨row, hfx, hn⟩ := ArrAt.fix h
    have hO := (((OnlyAt.refl g w).store 0 (.bool lo.neg)).store 1 (.slice a1 lo.num.length c1)).store 2 (.slice a2 lo.den.length c2)
    rw [hw']
    exact (h.lo h1 h2).hi (h3.apart hfx hn hO) (h4.apart hfx hn hO)
  · rw [hw']
    exact ((((((OnlyAt.refl g w).store 0 _).store 1 _).store 2 _).store 3 _).store 4 _).store 5 _
  · rw [hw']
    exact (((((hk.store hg _ _).store hg _ _).store hg _ _).store hg _ _).store hg _ _).store hg _ _
/-- A fraction that is stored into a variable of the call's own. -/
theorem RatCell.save {w : World} {g : Nat} {v : Value} {r0 r : Rw} (h : RatCell w g r0) (hv : RatAt w v r) : ∃ n l m a1 c1 a2 c2 w', v = .agg #[.bool n, .slice a1 l c1, .slice a2 m c2] ∧
    w' = ((w.setCell ⟨g, 0, none⟩ (.bool n)).setCell ⟨g, 1, none⟩ (.slice a1 l c1)).setCell ⟨g, 2, none⟩ (.slice a2 m c2) ∧
    ((∃ z, w.cell? ⟨g, 0, none⟩ = some z) ∧ (∃ z, w.cell? ⟨g, 1, none⟩ = some z) ∧ (∃ z, w.cell? ⟨g, 2, none⟩ = some z)) ∧
    (w.frozen? ⟨g, 0, none⟩ = false ∧ w.frozen? ⟨g, 1, none⟩ = false ∧ w.frozen? ⟨g, 2, none⟩ = false) ∧ g < w.heap.size ∧
    Hid (w'.cell? ⟨g, 0, none⟩ = some (.bool n) ∧ w'.cell? ⟨g, 1, none⟩ = some (.slice a1 l c1) ∧ w'.cell? ⟨g, 2, none⟩ = some (.slice a2 m c2)) ∧
    Hid (RatAt w' (.agg #[.bool n, .slice a1 l c1, .slice a2 m c2]) r) ∧ Hid (RatCell w' g r) ∧ Hid (∀ W, Kept W w → W.heap.size ≤ g → Kept W w') := by
  obtain ⟨u1, u2, rfl, h1, h2⟩ := hv
  obtain ⟨a1, c1, rfl⟩ := h1.shape
  obtain ⟨a2, c2, rfl⟩ := h2.shape
  obtain ⟨_, _, _, _, ⟨x0, x1, x2⟩, hf, hl, _⟩ := h.at
  have hs := h.store h1 h2
  obtain ⟨w', hw'⟩ : ∃ w', w' = ((w.setCell ⟨g, 0, none⟩ (.bool r.neg)).setCell ⟨g, 1, none⟩ (.slice a1 r.num.length c1)).setCell ⟨g, 2, none⟩ (.slice a2 r.den.length c2) := ⟨_, rfl⟩
  rw [← hw'] at hs
  refine ⟨_, _, _, _, _, _, _, w', rfl, hw', ⟨⟨_, x0⟩, ⟨_, x1⟩, ⟨_, x2⟩⟩, hf, hl, Lib.hid ?_, Lib.hid ?_, Lib.hid hs, Lib.hid fun W hk hg => ?_⟩
  · obtain ⟨_, _, _, _, hr, _⟩ := h
    have hr2 := ((hr.store 0 (.bool r.neg)).store 1 (.slice a1 r.num.length c1)).store 2 (.slice a2 r.den.length c2)
    rw [hw']
    have c := fun i (hi : i < 3) => hr2.cell (i := i) (by simpa using hi)
    exact ⟨c 0 (by omega), c 1 (by omega), c 2 (by omega)⟩
  · obtain ⟨a3, c3, a4, c4, _, hfx, _, _⟩ := h
    rw [hw']
    have hO := (((OnlyAt.refl g w).store 0 (.bool r.neg)).store 1 (.slice a1 r.num.length c1)).store 2 (.slice a2 r.den.length c2)
    have hn : ∀ k x, Value.int k x ∉ [Value.bool r0.neg, .slice a3 r0.num.length c3, .slice a4 r0.den.length c4] := fun k x hx => by simp at hx
    exact ⟨_, _, rfl, h1.apart hfx hn hO, h2.apart hfx hn hO⟩
  · rw [hw']
    exact ((hk.store hg _ _).store hg _ _).store hg _ _
theorem SpnAt.free {w : World} {g : Nat} {lo hi : Rw} (h : SpnAt w g lo hi) : ∀ j, w.frozen? ⟨g, j, none⟩ = false := by
  obtain ⟨_, _, _, _, _, _, _, _, _, hf, _⟩ := h.at
  exact hf
theorem SpanV.of2 {w : World} {b1 b2 : Bool} {u1 u2 u3 u4 : Value} {lo hi : Rw} (h1 : RatAt w (.agg #[.bool b1, u1, u2]) lo) (h2 : RatAt w (.agg #[.bool b2, u3, u4]) hi) : SpanV w (.agg #[.bool b1, u1, u2, .bool b2, u3, u4]) lo hi := by
  obtain ⟨x1, x2, e1, k1, k2⟩ := h1
  obtain ⟨x3, x4, e2, k3, k4⟩ := h2
  simp only [Value.agg.injEq, Array.mk.injEq, List.cons.injEq, Value.bool.injEq, and_true] at e1 e2
  obtain ⟨rfl, rfl, rfl⟩ := e1
  obtain ⟨rfl, rfl, rfl⟩ := e2
  exact ⟨_, _, _, _, rfl, k1, k2, k3, k4⟩
theorem SpnAt.lay {w : World} {b1 b2 : Bool} {u1 u2 u3 u4 : Value} {lo hi : Rw} (hv : SpanV w (.agg #[.bool b1, u1, u2, .bool b2, u3, u4]) lo hi) : SpnAt (w.alloc (.cells #[.bool b1, u1, u2, .bool b2, u3, u4] 61)) w.heap.size lo hi := by
  obtain ⟨_, _, _, _, e, h1, h2, h3, h4⟩ := hv
  simp only [Value.agg.injEq, Array.mk.injEq, List.cons.injEq, Value.bool.injEq, and_true] at e
  obtain ⟨rfl, rfl, rfl, rfl, rfl, rfl⟩ := e
  exact SpnAt.made h1 h2 h3 h4
theorem SpnAt.set {w : World} {g : Nat} {b1 b2 : Bool} {u1 u2 u3 u4 : Value} {lo0 hi0 lo hi : Rw} (h : SpnAt w g lo0 hi0) (hv : SpanV w (.agg #[.bool b1, u1, u2, .bool b2, u3, u4]) lo hi) :
    SpnAt ((((((w.setCell ⟨g, 0, none⟩ (.bool b1)).setCell ⟨g, 1, none⟩ u1).setCell ⟨g, 2, none⟩ u2).setCell ⟨g, 3, none⟩ (.bool b2)).setCell ⟨g, 4, none⟩ u3).setCell ⟨g, 5, none⟩ u4) g lo hi := by
  obtain ⟨_, _, _, _, e, h1, h2, h3, h4⟩ := hv
  simp only [Value.agg.injEq, Array.mk.injEq, List.cons.injEq, Value.bool.injEq, and_true] at e
  obtain ⟨rfl, rfl, rfl, rfl, rfl, rfl⟩ := e
  obtain ⟨row, hfx, hn⟩ := ArrAt.fix h
  have hO := (((OnlyAt.refl g w).store 0 (.bool lo.neg)).store 1 u1).store 2 u2
  exact (h.lo h1 h2).hi (h3.apart hfx hn hO) (h4.apart hfx hn hO)
/-- A literal of two fractions. -/
theorem ArrAt.two {w : World} {r s : Rw} {u1 u2 u3 u4 : Value} {b1 b2 : Bool} (h1 : RatAt w (.agg #[.bool b1, u1, u2]) r) (h2 : RatAt w (.agg #[.bool b2, u3, u4]) s) :
    ArrAt (w.alloc (.cells #[.bool b1, u1, u2, .bool b2, u3, u4] 39)) w.heap.size 39 [r, s] := by
  obtain ⟨x1, x2, e1, k1, k2⟩ := h1
  obtain ⟨x3, x4, e2, k3, k4⟩ := h2
  simp only [Value.agg.injEq, Array.mk.injEq, List.cons.injEq, Value.bool.injEq, and_true] at e1 e2
  obtain ⟨rfl, rfl, rfl⟩ := e1
  obtain ⟨rfl, rfl, rfl⟩ := e2
  have hk : Kept w (w.alloc (.cells #[.bool r.neg, u1, u2, .bool s.neg, u3, u4] 39)) := (Kept.refl _).alloc _
  refine ⟨[(r, u1, u2), (s, u3, u4)], rfl, RowAt.made w #[.bool r.neg, u1, u2, .bool s.neg, u3, u4] 39, FixAt.made w #[.bool r.neg, u1, u2, .bool s.neg, u3, u4] 39, fun x hx => ?_⟩
  rcases List.mem_cons.1 hx with rfl | hx
  · exact ⟨k1.kept hk, k2.kept hk⟩
  · rw [List.mem_singleton] at hx; subst hx; exact ⟨k3.kept hk, k4.kept hk⟩
end Go.Proofs.YtbkchheikkbebaaGreatDoor

/-
  Walks: bad of disjoint, esary and the reference: a fraction is no probability.
-/
namespace Go.Proofs.YtbkchheikkbebaaGreatDoor
open Go.RowKit

set_option maxRecDepth 100000 in
set_option maxHeartbeats 2000000 in
theorem dbad_any (v : Value) (ps : List Rw) (w : World) (hv : RatsAt w v ps) (hs : ∀ x ∈ ps, x.Short 34359738368) : Calls Tryz.prog 88 #[v] w fun e w' => e = .returned (.bool (badR ps)) ∧ Kept w w' := by
  obtain ⟨a, c, rfl, ⟨hc, _⟩, hl, hx⟩ := hv
  obtain ⟨n, hn⟩ : ∃ n, n = ps.length := ⟨_, rfl⟩
  have hbig : n ≤ 140737488355328 := by omega
  rw [← hn]
  have HX := Lib.hid hx
  have HN := Lib.hid hn
  have HLT := Lib.hid hs
  clear hx hn hl hc hs
  go_enter Tryz.func88, Tryz.ntmps88
  go_wp2_with fail
  go_loopg [7] n (fun kx i wr => ∃ k : Nat, k ≤ n ∧ i = .int .i64 k ∧ n - k ≤ kx ∧ Hid (∀ x ∈ ps.take k, probR x = true) ∧ Hid (Kept w wr))
  case atStart => exact ⟨0, Nat.zero_le _, rfl, by omega, Lib.hid (by simp), Lib.hid (Kept.refl _)⟩
  case round =>
    obtain ⟨k, hk, rfl, hkx, HF, HK⟩ := hrel
    by_cases hlt : k < n
    · have hkl : k < ps.length := by have := HN.out; omega
      obtain ⟨b, o, u1, u2, rfl, hrg, hw1, hw2⟩ := HX.out k hkl
      have hrg2 := range_same hrg HK.out
      have hxl := HLT.out ps[k] (List.getElem_mem _)
      obtain ⟨x, hxx⟩ : ∃ x, x = ps[k] := ⟨_, rfl⟩
      rw [← hxx] at hrg2 hxl hw1 hw2
      have HXX := Lib.hid hxx
      obtain ⟨a1, c1, rfl⟩ := hw1.shape
      obtain ⟨a2, c2, rfl⟩ := hw2.shape
      have HC : Hid (∀ W, Kept w W → Calls Tryz.prog 46 #[.agg #[.bool x.neg, .slice a1 x.num.length c1, .slice a2 x.den.length c2]] W fun e W' => e = .returned (.bool (probR x)) ∧ Kept W W') := Lib.hid fun W hk => rprob_any _ x W ⟨_, _, rfl, hw1.kept hk, hw2.kept hk⟩ ⟨Nat.le_trans hxl.1 (by omega), Nat.le_trans hxl.2 (by omega)⟩
      generalize x.num.length = n1 at *
      generalize x.den.length = n2 at *
      have HRG : Hid (wr.rangeAt b (o + k * 3) [.bool x.neg, .slice a1 n1 c1, .slice a2 n2 c2]) := Lib.hid hrg2
      have hkn : (k : Int) < (n : Int) := by omega
      clear hrg hrg2 hxx hxl hw1 hw2
      cases hq : probR x with
      | false =>
        rw [hq] at HC
        have HQ := Lib.hid hq
        clear hq
        go_wp2_with (first | (with_reducible refine wpList_load_mid rfl 39 _ rfl b (o + k * 3) rfl _ _ HRG.out Tryz.underlying39 rfl (by kernel_rfl) ?_) | (go_at_call 46; refine (HC.out _ (HK.out.alloc _)).mono ?_; rintro e w' ⟨rfl, hK2⟩))
        go_ret
        have hb : badR ps = true := List.any_eq_true.2 ⟨x, by rw [HXX.out]; exact List.getElem_mem _, by rw [HQ.out]; rfl⟩
        exact ⟨by rw [hb]; rfl, (HK.out.alloc _).trans hK2⟩
      | true =>
        rw [hq] at HC
        have HQ := Lib.hid hq
        clear hq
        go_wp2_with (first | (with_reducible refine wpList_load_mid rfl 39 _ rfl b (o + k * 3) rfl _ _ HRG.out Tryz.underlying39 rfl (by kernel_rfl) ?_) | (go_at_call 46; refine (HC.out _ (HK.out.alloc _)).mono ?_; rintro e w' ⟨rfl, hK2⟩))
        go_roundg (n - (k + 1))
        case measure => omega
        case rel =>
          refine ⟨k + 1, by omega, by go_num, Nat.le_refl _, Lib.hid ?_, Lib.hid ((HK.out.alloc _).trans hK2)⟩
          intro y hy
          rw [List.take_succ_eq_append_getElem hkl] at hy
          rcases List.mem_append.1 hy with hy | hy
          · exact HF.out y hy
          · simp at hy; rw [hy, ← HXX.out]; exact HQ.out
    · have hh := HF.out
      rw [List.take_of_length_le (by have := HN.out; omega)] at hh
      have HB : Hid (badR ps = false) := Lib.hid (by unfold badR; rw [List.any_eq_false]; intro y hy; simp [hh y hy])
      have hkn : ¬ (k : Int) < (n : Int) := by omega
      clear hh
      go_wp2
      go_ret
      exact ⟨by rw [HB.out]; rfl, HK.out⟩
end Go.Proofs.YtbkchheikkbebaaGreatDoor

/-
  Walks: cube.Check, disjoint.Check and the reference's: lists of disjoint cubes.
-/
namespace Go.Proofs.YtbkchheikkbebaaGreatDoor
open Go.RowKit

theorem chkCb_nat (Y N : Nat) (h1 : Y < 16777216) (h2 : N < 16777216) : chkCb ((Y : Int), (N : Int)) = if Y &&& N = 0 then 0 else 6 := by
  unfold chkCb
  rw [if_pos ⟨⟨by simp, by simpa using (by omega : (Y : Int) < 16777216)⟩, by simp, by simpa using (by omega : (N : Int) < 16777216)⟩]
  simp only [Int.toNat_natCast]
  by_cases h : Y &&& N = 0
  · rw [if_pos h, if_neg (by simpa using h)]
  · rw [if_neg h, if_pos h]
set_option maxRecDepth 100000 in
theorem cubchk_any (y n : Int) (w : World) : Calls Tryz.prog 93 #[.agg #[.int .i64 y, .int .i64 n]] w fun e w' => e = .returned (errV (chkCb (y, n))) ∧ Kept w w' := by
  by_cases h1 : 0 ≤ y
  · by_cases h2 : y < 16777216
    · by_cases h3 : 0 ≤ n
      · by_cases h4 : n < 16777216
        · obtain ⟨Y, rfl⟩ := Int.eq_ofNat_of_zero_le h1
          obtain ⟨N, rfl⟩ := Int.eq_ofNat_of_zero_le h3
          rw [chkCb_nat Y N (by omega) (by omega)]
          have p := and_i64 Y N (by omega) (by omega)
          obtain ⟨z, hz⟩ : ∃ z, z = Y &&& N := ⟨_, rfl⟩
          rw [← hz] at p ⊢
          have h2' : (Y : Int) ≤ 16777215 := by omega
          have h4' : (N : Int) ≤ 16777215 := by omega
          clear hz
          by_cases h0 : z = 0
          · subst h0
            rw [if_pos (Eq.refl 0)]
            go_enter Tryz.func93, Tryz.ntmps93
            go_wp2
            go_ret
            exact ⟨rfl, (Kept.refl _).alloc _⟩
          · have hz0 : ¬ (z : Int) = 0 := by omega
            have hz1 : ((z : Int) != 0) = true := by simp; omega
            rw [if_neg h0]
            go_enter Tryz.func93, Tryz.ntmps93
            go_wp2
            go_ret
            exact ⟨by rfl, (Kept.refl _).alloc _⟩
        · have hb : chkCb (y, n) = 3 := by unfold chkCb; rw [if_neg (by simp only []; omega)]
          have h4' : ¬ n ≤ 16777215 := by omega
          have h2' : y ≤ 16777215 := by omega
          rw [hb]
          go_enter Tryz.func93, Tryz.ntmps93
          go_wp2
          go_ret
          exact ⟨by rfl, (Kept.refl _).alloc _⟩
      · have hb : chkCb (y, n) = 3 := by unfold chkCb; rw [if_neg (by simp only []; omega)]
        have h2' : y ≤ 16777215 := by omega
        rw [hb]
        go_enter Tryz.func93, Tryz.ntmps93
        go_wp2
        go_ret
        exact ⟨by rfl, (Kept.refl _).alloc _⟩
    · have hb : chkCb (y, n) = 3 := by unfold chkCb; rw [if_neg (by simp only []; omega)]
      have h2' : ¬ y ≤ 16777215 := by omega
      rw [hb]
      go_enter Tryz.func93, Tryz.ntmps93
      go_wp2
      go_ret
      exact ⟨by rfl, (Kept.refl _).alloc _⟩
  · have hb : chkCb (y, n) = 3 := by unfold chkCb; rw [if_neg (by simp only []; omega)]
    rw [hb]
    go_enter Tryz.func93, Tryz.ntmps93
    go_wp2
    go_ret
    exact ⟨by rfl, (Kept.refl _).alloc _⟩
theorem chkCs_at {L : List (Int × Int)} {k : Nat} (hk : k < L.length) (h : ∀ c ∈ L.take k, chkCb c = 0) (hq : chkCb (L.getD k default) ≠ 0) : chkCs L = chkCb (L.getD k default) := by
  have e : L.getD k default = L[k] := by simp [List.getD_eq_getElem?_getD, hk]
  rw [e] at hq ⊢
  have h1 : L = L.take k ++ L[k] :: L.drop (k + 1) := by rw [← List.drop_eq_getElem_cons hk, List.take_append_drop]
  conv => lhs; rw [h1]
  rw [chkCs_app _ _ (chkCs_ok h), chkCs, if_pos hq]
set_option maxRecDepth 100000 in
set_option maxHeartbeats 8000000 in
theorem dcheck_any (v : Value) (L : List (Int × Int)) (w : World) (hv : CbsAt w v L) : Calls Tryz.prog 30 #[v] w fun e w' => e = .returned (errV (chkD L)) ∧ Kept w w' := by
  have HV := Lib.hid hv
  obtain ⟨a, c, rfl⟩ := hv.shape
  have hl := hv.len
  obtain ⟨n, hn⟩ : ∃ n, n = L.length := ⟨_, rfl⟩
  rw [← hn] at HV hl ⊢
  obtain ⟨q, hq⟩ : ∃ q, q = chkD L := ⟨_, rfl⟩
  rw [← hq]
  have HQ : Hid (q = if 1024 < n then 4 else if chkCs L ≠ 0 then chkCs L else if metT L n = true then 21 else 0) := Lib.hid (by rw [hq, hn]; rfl)
  have HN := Lib.hid hn
  have HCC : Hid (∀ c : Int × Int, ∀ W, Calls Tryz.prog 93 #[.agg #[.int .i64 c.1, .int .i64 c.2]] W fun e w' => e = .returned (errV (chkCb c)) ∧ Kept W w') := Lib.hid fun c W => cubchk_any c.1 c.2 W
  have hcn : ¬ (c : Int) < (n : Int) := by
    obtain ⟨_, _, he, ⟨h2, _⟩, _⟩ := hv
    injection he with _ h3 h4
    omega
  have HCN : Hid (n ≤ c) := Lib.hid (by omega)
  clear hv hq hn hcn
  by_cases h9 : 1024 < n
  · have h9' : (1024 : Int) < (n : Int) := by omega
    have hq4 : q = 4 := by have h := HQ.out; rw [if_pos h9] at h; exact h
    subst hq4
    go_enter Tryz.func30, Tryz.ntmps30
    go_wp2
    go_ret
    exact ⟨rfl, Kept.refl _⟩
  · have h9' : ¬ (1024 : Int) < (n : Int) := by omega
    have HQ2 : Hid (q = if chkCs L ≠ 0 then chkCs L else if metT L n = true then 21 else 0) := Lib.hid (by have h := HQ.out; rw [if_neg h9] at h; exact h)
    go_enter Tryz.func30, Tryz.ntmps30
    go_wp2_with fail
    go_loopg [16] n (fun kx s16 wr => ∃ k : Nat, k ≤ n ∧ s16 = .int .i64 k ∧ n - k ≤ kx ∧ Hid (∀ c ∈ L.take k, chkCb c = 0) ∧ Hid (Kept w wr))
    case atStart => exact ⟨0, Nat.zero_le _, rfl, by omega, Lib.hid (by simp), Lib.hid (Kept.refl _)⟩
    case round =>
      obtain ⟨k, hk, rfl, hkx, HF, HK⟩ := hrel
      by_cases hlt : k < n
      · have hkl : k < L.length := by have := HN.out; omega
        have hki : (k : Int) < (n : Int) := by omega
        obtain ⟨b, o, rfl, g1, g2⟩ := HV.out.get k hkl
        have x1 := HK.out.cell g1
        have x2 := HK.out.cell g2
        rw [← Nat.add_assoc] at x2
        obtain ⟨d, hd⟩ : ∃ d, d = L.getD k default := ⟨_, rfl⟩
        rw [← hd] at x1 x2
        have HD := Lib.hid hd
        have HCD := Lib.hid (HCC.out d)
        obtain ⟨z, hz⟩ : ∃ z, z = chkCb d := ⟨_, rfl⟩
        have HZ := Lib.hid hz
        rw [← hz] at HCD
        clear g1 g2 hd hz
        by_cases hz0 : z = 0
        · subst hz0
          rw [errV_zero] at HCD
          obtain ⟨W1, rfl⟩ : ∃ W1 : World, W1 = wr := ⟨_, rfl⟩
          go_wp2_with (go_at_call 93; refine (HCD.out _).mono ?_; rintro e w2 ⟨rfl, hk2⟩; have HK2 := Lib.hid (((Kept.refl W1).alloc _).trans hk2); clear hk2)
          go_roundg (n - (k + 1))
          case measure => omega
          case rel =>
            refine ⟨k + 1, by omega, by go_num, Nat.le_refl _, Lib.hid fun c hc => ?_, Lib.hid (HK.out.trans HK2.out)⟩
            rw [List.take_succ_eq_append_getElem hkl] at hc
            rcases List.mem_append.1 hc with hc | hc
            · exact HF.out c hc
            · rw [List.mem_singleton] at hc
              have e : L.getD k default = L[k] := by simp [List.getD_eq_getElem?_getD, hkl]
              rw [hc, ← e, ← HD.out, ← HZ.out]
        · rw [errV_pos hz0] at HCD
          have HR : Hid (q = z) := Lib.hid (by
            have h := HQ2.out
            have e := chkCs_at hkl HF.out (by rw [← HD.out, ← HZ.out]; exact hz0)
            rw [← HD.out, ← HZ.out] at e
            rw [e, if_pos hz0] at h
            exact h)
          obtain ⟨W1, rfl⟩ : ∃ W1 : World, W1 = wr := ⟨_, rfl⟩
          go_wp2_with (go_at_call 93; refine (HCD.out _).mono ?_; rintro e w2 ⟨rfl, hk2⟩; have HK2 := Lib.hid (((Kept.refl W1).alloc _).trans hk2); clear hk2)
          go_ret
          exact ⟨by rw [HR.out, errV_pos hz0]; rfl, HK.out.trans HK2.out⟩
      · have hki : ¬ (k : Int) < (n : Int) := by omega
        have HA : Hid (∀ i, i < n → ∃ Y N : Nat, L.getD i default = ((Y : Int), (N : Int)) ∧ Y < 16777216 ∧ N < 16777216) := Lib.hid fun i hi => by
          have hil : i < L.length := by have := HN.out; omega
          have e : L.getD i default = L[i] := by simp [List.getD_eq_getElem?_getD, hil]
          have h0 := HF.out L[i] (by rw [List.take_of_length_le (by have := HN.out; omega)]; exact List.getElem_mem hil)
          obtain ⟨⟨h1, h2, _⟩, h4⟩ := chkCb_zero h0
          exact ⟨_, _, by rw [e]; exact h4, h1, h2⟩
        have HQ3 : Hid (q = if metT L n = true then 21 else 0) := Lib.hid (by
          have h := HQ2.out
          rw [chkCs_ok (L := L) (fun c hc => HF.out c (by rw [List.take_of_length_le (by have := HN.out; omega)]; exact hc)), if_neg (by simp)] at h
          exact h)
        go_wp2_with fail
        obtain ⟨w2, rfl⟩ : ∃ w2 : World, w2 = wr := ⟨_, rfl⟩
        go_loopg [28] n (fun ix s28 wi => ∃ i : Nat, i ≤ n ∧ s28 = .int .i64 i ∧ n - i ≤ ix ∧ Hid (metT L i = false) ∧ Hid (Kept w wi))
        case atStart => exact ⟨0, Nat.zero_le _, rfl, by omega, Lib.hid rfl, HK⟩
        case round =>
          obtain ⟨i, hi, rfl, hix, HM, HKI⟩ := hrel
          by_cases hil : i < n
          · have hii : (i : Int) < (n : Int) := by omega
            have hilen : i < L.length := by have := HN.out; omega
            obtain ⟨Y, N, e1, hY, hN⟩ := HA.out i hil
            obtain ⟨b, o, rfl, g1, g2⟩ := HV.out.get i hilen
            rw [e1] at g1 g2
            have x1 := HKI.out.cell g1
            have x2 := HKI.out.cell g2
            rw [← Nat.add_assoc] at x2
            have HE := Lib.hid e1
            have hic : ¬ (c : Int) < (i : Int) := by have := HCN.out; omega
            have hic2 : (i : Int) ≤ (c : Int) := by have := HCN.out; omega
            have hi0 : ¬ (i : Int) < 0 := by omega
            clear g1 g2 e1
            go_wp2_with fail
            obtain ⟨wo, rfl⟩ : ∃ wo : World, wo = wr := ⟨_, rfl⟩
            obtain ⟨w5, hw5⟩ : ∃ w5, w5 = wo.alloc (.cells #[.int .i64 Y, .int .i64 N] 55) := ⟨_, rfl⟩
            have hr5 := RowAt.made wo #[.int .i64 (Y : Int), .int .i64 (N : Int)] 55
            have HK5 : Hid (Kept wo w5) := Lib.hid (by rw [hw5]; exact (Kept.refl wo).alloc _)
            rw [← hw5] at hr5 ⊢
            have HR5 := Lib.hid hr5
            clear hw5 hr5
            go_loopg [37] i (fun jx s37 W => ∃ j : Nat, j ≤ i ∧ s37 = .int .i64 j ∧ i - j ≤ jx ∧ Hid (metC L i j = false) ∧ Hid (Kept w5 W))
            case atStart => exact ⟨0, Nat.zero_le _, rfl, by omega, Lib.hid rfl, Lib.hid (Kept.refl _)⟩
            case round =>
              obtain ⟨j, hj, rfl, hjx, HMJ, HKJ⟩ := hrel
              by_cases hjl : j < i
              · have hji : (j : Int) < (i : Int) := by omega
                have hjlen : j < L.length := by omega
                obtain ⟨Y2, N2, f1, hY2, hN2⟩ := HA.out j (by omega)
                obtain ⟨b', o', he', k1, k2⟩ := HV.out.get j hjlen
                cases he'
                rw [f1] at k1 k2
                have HKK := Lib.hid (HKI.out.trans (HK5.out.trans HKJ.out))
                have z1 := HKK.out.cell k1
                have z2 := HKK.out.cell k2
                rw [← Nat.add_assoc] at z2
                have y1 := (HR5.out.kept HKJ.out).cell (i := 0) (by simp)
                have y2 := (HR5.out.kept HKJ.out).cell (i := 1) (by simp)
                simp only [List.getElem_cons_succ, List.getElem_cons_zero] at y1 y2
                have p1 := and_i64 Y N2 (by omega) (by omega)
                have p2 := and_i64 N Y2 (by omega) (by omega)
                have HST : Hid (metC L i (j + 1) = ((Y &&& N2 == 0) && (N &&& Y2 == 0))) := Lib.hid (by
                  rw [metC_succ, HMJ.out, HE.out, f1]; rfl)
                have hlt5 := (HR5.out.kept HKJ.out).lt
                obtain ⟨t1, ht1⟩ : ∃ t1, t1 = Y &&& N2 := ⟨_, rfl⟩
                obtain ⟨t2, ht2⟩ : ∃ t2, t2 = N &&& Y2 := ⟨_, rfl⟩
                rw [← ht1] at p1 HST
                rw [← ht2] at p2 HST
                clear k1 k2 f1 ht1 ht2
                obtain ⟨W1, rfl⟩ : ∃ W1 : World, W1 = wr := ⟨_, rfl⟩
                by_cases c1 : t1 = 0
                · subst c1
                  by_cases c2 : t2 = 0
                  · subst c2
                    have HR : Hid (q = 21) := Lib.hid (by
                      have h := HQ3.out
                      rw [if_pos] at h
                      · exact h
                      · unfold metT
                        rw [List.any_eq_true]
                        refine ⟨i, by simpa using hil, ?_⟩
                        have h2 : metC L i (j + 1) = true := by rw [HST.out]; rfl
                        unfold metC at h2 ⊢
                        obtain ⟨m, hm, h3⟩ := List.any_eq_true.1 h2
                        exact List.any_eq_true.2 ⟨m, by simp at hm ⊢; omega, h3⟩)
                    go_wp2
                    go_ret
                    exact ⟨by rw [HR.out]; rfl, HKK.out.alloc _⟩
                  · have c2' : ¬ (t2 : Int) = 0 := by omega
                    have c2'' : ((t2 : Int) == 0) = false := by simpa using c2'
                    have HST2 : Hid (metC L i (j + 1) = false) := Lib.hid (by rw [HST.out]; simp [c2])
                    go_wp2
                    go_roundg (i - (j + 1))
                    case measure => omega
                    case rel => exact ⟨j + 1, by omega, by go_num, Nat.le_refl _, HST2, Lib.hid (HKJ.out.alloc _)⟩
                · have c1' : ¬ (t1 : Int) = 0 := by omega
                  have c1'' : ((t1 : Int) == 0) = false := by simpa using c1'
                  have HST2 : Hid (metC L i (j + 1) = false) := Lib.hid (by rw [HST.out]; simp [c1])
                  go_wp2
                  go_roundg (i - (j + 1))
                  case measure => omega
                  case rel => exact ⟨j + 1, by omega, by go_num, Nat.le_refl _, HST2, Lib.hid (HKJ.out.alloc _)⟩
              · have hji : ¬ (j : Int) < (i : Int) := by omega
                have HMI : Hid (metT L (i + 1) = false) := Lib.hid (by
                  have hje : j = i := by omega
                  rw [hje] at HMJ
                  rw [metT_succ, HM.out, HMJ.out]; rfl)
                go_wp2
                go_roundg (n - (i + 1))
                case measure => omega
                case rel => exact ⟨i + 1, by omega, by go_num, Nat.le_refl _, HMI, Lib.hid (HKI.out.trans (HK5.out.trans HKJ.out))⟩
          · have hii : ¬ (i : Int) < (n : Int) := by omega
            have HR : Hid (q = 0) := Lib.hid (by
              have hie : i = n := by omega
              have h := HQ3.out
              rw [← hie, HM.out, if_neg (by simp)] at h
              exact h)
            go_wp2
            go_ret
            exact ⟨by rw [HR.out]; rfl, HKI.out⟩
end Go.Proofs.YtbkchheikkbebaaGreatDoor

/-
  Walks: disjoint.less and the reference's less.
-/
namespace Go.Proofs.YtbkchheikkbebaaGreatDoor
open Go.RowKit

/-- The events of a cube behind some steps. -/
def lessY (y : Nat) (is : List Nat) : Nat := is.foldl (fun y i => y ||| 2 ^ i) y
theorem or_lt24 {a b : Nat} (ha : a < 16777216) (hb : b < 16777216) : a ||| b < 16777216 := by
  have := Nat.or_lt_two_pow (n := 24) (x := a) (y := b) ha hb
  exact this
end Go.Proofs.YtbkchheikkbebaaGreatDoor

/-
  Walks: disjoint.without, Cubes.
-/
namespace Go.Proofs.YtbkchheikkbebaaGreatDoor
open Go.RowKit

/-- What Cubes answers. -/
def cubR (xs : List Int) : Nat × List (Nat × Nat) := if chkI xs ≠ 0 then (chkI xs, []) else match cubesK (natsI xs) with | none => (4, []) | some l => (0, l)
end Go.Proofs.YtbkchheikkbebaaGreatDoor

/-
  Walks: the reference's less and Cubes of disjoint products.
-/
namespace Go.Proofs.YtbkchheikkbebaaGreatDoor
open Go.RowKit

theorem IntsAt.get {w : World} {a : Option Addr} {n c : Nat} {xs : List Int} (h : IntsAt w (.slice a n c) xs) (i : Nat) (hi : i < xs.length) : ∃ b o, a = some ⟨b, o, none⟩ ∧ w.cell? ⟨b, o + i, none⟩ = some (.int .i64 xs[i]) := by
  obtain ⟨a', c', h1, _, _, h5⟩ := h
  injection h1 with h1
  subst h1
  exact h5 i hi
end Go.Proofs.YtbkchheikkbebaaGreatDoor

/-
  Walks: faultlinebase.Cubes of equal lists; faultlinelaw38.many.
-/
namespace Go.Proofs.YtbkchheikkbebaaGreatDoor
open Go.RowKit

/-- A list is too long to be looked at. -/
def manyB (n most : Nat) : Bool := (decide (40 < n) && decide (n ≤ most)) || decide (3000 < n)
end Go.Proofs.YtbkchheikkbebaaGreatDoor

/-
  Walks: writing to a strings.Builder that is new.
-/
namespace Go.Proofs.YtbkchheikkbebaaGreatDoor
open Go.RowKit

set_option maxHeartbeats 1000000 in
set_option maxRecDepth 100000 in
theorem bcheck_new (b : Nat) (w : World) (h0 : w.cell? ⟨b, 0, none⟩ = some (.pointer none)) (hsh : w.shape? b = some (202, 2)) (hfz : w.frozen? ⟨b, 0, none⟩ = false) :
    Calls Tryz.prog 270 #[.pointer (some ⟨b, 0, none⟩)] w fun e w' => e = .returned (.tuple #[]) ∧ w' = w.setCell ⟨b, 0, none⟩ (.pointer (some ⟨b, 0, none⟩)) := by
  have hsz : (Tryz.prog.info? 202).map (fun i => i.size) = some 2 := by kernel_rfl
  obtain ⟨j, hj, hjs⟩ := Option.map_eq_some_iff.1 hsz
  have hne : j.size ≠ 0 := by rw [hjs]; decide
  go_enter Tryz.func270, Tryz.ntmps270
  go_wp2
  rw [Lib.run_to_unsafe w ⟨b, 0, none⟩ Tryz.underlying199 Tryz.underlying261 hj hne hsh (Nat.zero_lt_succ 1)]
  simp only [Result.andThen]
  rw [Oper.upon_value]
  go_wp2
  rw [run_callFunc_extern Tryz.func292 (by kernel_rfl) (by kernel_rfl) (by kernel_rfl) (e := Extern.AbiNoEscape.same) (by kernel_rfl)]
  rw [Lib.run_noEscape]
  simp only [Result.andThen]
  rw [Oper.upon_value]
  go_wp2
  rw [Lib.run_from_unsafe w ⟨b, 0, none⟩ Tryz.underlying261 Tryz.underlying199 hj hsh Go.Proofs.Tryz.Builder_Extra_169.liesBuilder]
  simp only [Result.andThen]
  rw [Oper.upon_value]
  go_wp2
  go_end0
  exact ⟨rfl, rfl⟩
set_option maxHeartbeats 2000000 in
set_option maxRecDepth 100000 in
/-- WriteString to a new builder. -/
theorem bwrite_new (B b : Nat) (s : ByteArray) (w : World) (hB : B ≤ b) (hbk : w.heap[b]? = some (.cells #[.pointer none, .slice none 0 0] 202 (0, 0))) (hlen : s.size ≤ 140737488355328) (hBw : B ≤ w.heap.size) :
    Calls Tryz.prog 220 #[.pointer (some ⟨b, 0, none⟩), .string s] w fun e w' => e = .returned (.tuple #[.int .i64 s.size, .nilIface]) ∧ (Lib.BuilderAt 202 5 B b (.pointer (some ⟨b, 0, none⟩)) (Lib.strCells s) w' ∧ Below B w w') := by
  obtain ⟨i0, hi, hz0, hz1, hz2⟩ := info_parts Go.Proofs.Tryz.Builder_Extra_169.infoByte
  have hlt : b < w.heap.size := by
    rcases Nat.lt_or_ge b w.heap.size with h' | h'
    · exact h'
    · simp [Array.getElem?_eq_none h'] at hbk
  have e0 : w.cell? ⟨b, 0, none⟩ = some (.pointer none) := by simp [World.cell?, hbk]
  have ef : w.frozen? ⟨b, 0, none⟩ = false := Lib.frozen_of_heap hbk 0
  have es : w.shape? b = some (202, 2) := by simp [World.shape?, hbk]
  obtain ⟨w1, hw1⟩ : ∃ w1, w1 = w.setCell ⟨b, 0, none⟩ (.pointer (some ⟨b, 0, none⟩)) := ⟨_, rfl⟩
  have HCK : Hid (Calls Tryz.prog 270 #[.pointer (some ⟨b, 0, none⟩)] w fun e w' => e = .returned (.tuple #[]) ∧ w' = w1) := Lib.hid (by rw [hw1]; exact bcheck_new b w e0 es ef)
  obtain ⟨v, hv⟩ : ∃ v : Value, v = .slice none 0 0 := ⟨_, rfl⟩
  have HOW : Hid (w1.ownsRow B 5 1 v 0 []) := Lib.hid (by rw [hv]; exact World.ownsRow_nil _ _ _ _)
  have HNB : Hid (v.ownBlock = none) := Lib.hid (by rw [hv]; rfl)
  have hb1 : w1.heap[b]? = some (.cells #[.pointer (some ⟨b, 0, none⟩), v] 202 (0, 0)) := by
    rw [hw1, hv]
    have := heap_setCell_same w b 0 _ _ (.pointer (some ⟨b, 0, none⟩)) hbk
    simpa using this
  have hk1 : Below B w w1 := by rw [hw1]; exact (Below.refl B w).setCell (p := ⟨b, 0, none⟩) hB _
  have hs1 : w1.heap.size = w.heap.size := by rw [hw1]; simp
  have c0 : w1.cell? ⟨b, 0, none⟩ = some (.pointer (some ⟨b, 0, none⟩)) := by rw [Lib.cell_of_heap hb1]; rfl
  have c1 : w1.cell? ⟨b, 1, none⟩ = some v := by rw [Lib.cell_of_heap hb1]; rfl
  have HB1 := Lib.hid hb1
  have HK1 := Lib.hid hk1
  have HI := Lib.hid hi
  have HZ0 := Lib.hid hz0
  have HZ1 := Lib.hid hz1
  have HZ2 := Lib.hid hz2
  clear hw1 hv hbk e0 ef es hb1 hk1 hi hz0 hz1 hz2
  go_enter Tryz.func220, Tryz.ntmps220
  go_wp2_with (go_at_call 270; refine HCK.out.mono ?_)
  rintro e w1' ⟨rfl, rfl⟩
  go_wp2_with (at_builtin; refine Lib.wpList_append_own_string _ rfl _ _ 200 9 rfl B 5 i0 Tryz.underlying200 Tryz.underlying9 HI.out HZ0.out HZ1.out HZ2.out v 0 [] rfl HOW.out s rfl ?c3 ?c4 ?c5 ?_)
  case c3 => unfold maxLen; omega
  case c4 => omega
  case c5 => omega
  intro v' w2 hown' hgrow _
  have hb2 : w2.heap[b]? = some (.cells #[.pointer (some ⟨b, 0, none⟩), v] 202 (0, 0)) := by
    rw [hgrow.block b (by rw [hs1]; exact hlt) (fun e => by rw [HNB.out] at e; cases e)]
    exact HB1.out
  have d0 : w2.cell? ⟨b, 0, none⟩ = some (.pointer (some ⟨b, 0, none⟩)) := by rw [Lib.cell_of_heap hb2]; rfl
  have d1 : w2.cell? ⟨b, 1, none⟩ = some v := by rw [Lib.cell_of_heap hb2]; rfl
  have f1 : w2.frozen? ⟨b, 1, none⟩ = false := Lib.frozen_of_heap hb2 1
  obtain ⟨ao, n', cap, rfl⟩ : ∃ ao n' cap, v' = .slice ao n' cap := by
    rcases hown'.2 with ⟨hv, _⟩ | ⟨g, cap, cur, hv, _⟩
    · exact ⟨_, _, _, hv⟩
    · exact ⟨_, _, _, hv⟩
  go_wp2
  go_ret2
  refine ⟨rfl, ?_, ?_⟩
  · exact Lib.BuilderAt.put (T := 202) (e := 5) hB hb2 (bs' := Lib.strCells s) (by simpa [Lib.strCells_length] using hown') Go.Proofs.Tryz.Builder_Extra_169.neB5
  · exact (HK1.out.grown hgrow (by rw [hs1]; exact hBw) (fun k hk => by rw [HNB.out] at hk; cases hk)).setCell (p := ⟨b, 1, none⟩) hB _
end Go.Proofs.YtbkchheikkbebaaGreatDoor

/-
  Walk: natural.nine.
-/
namespace Go.Proofs.YtbkchheikkbebaaGreatDoor
open Go.RowKit

/-- The digits so far, from behind. -/
def arrK (r k : Nat) : List Value := (List.range 9).map fun j => .int .u8 (((if 9 ≤ j + k then 48 + r / 10 ^ (8 - j) % 10 else 0 : Nat)) : Int)
theorem arrK_step (r k : Nat) (hk : k < 9) : (arrK r k).set (8 - k) (.int .u8 ((48 + r / 10 ^ k % 10 : Nat) : Int)) = arrK r (k + 1) := by
  match k, hk with
  | 0, _ => rfl
  | 1, _ => rfl
  | 2, _ => rfl
  | 3, _ => rfl
  | 4, _ => rfl
  | 5, _ => rfl
  | 6, _ => rfl
  | 7, _ => rfl
  | 8, _ => rfl
def nineB (r : Nat) : List UInt8 := (List.range 9).map fun j => UInt8.ofNat (48 + r / 10 ^ (8 - j) % 10)
theorem nineB_len (r : Nat) : (nineB r).length = 9 := by unfold nineB; simp
theorem nineB_get (r j : Nat) (h : j < (nineB r).length) : (((nineB r)[j].toNat : Nat) : Int) = ((48 + r / 10 ^ (8 - j) % 10 : Nat) : Int) := by
  rw [nineB_len] at h
  have : r / 10 ^ (8 - j) % 10 < 10 := Nat.mod_lt _ (by decide)
  simp [nineB]
  omega
theorem arrK_get (r j : Nat) (h : j < 9) : (arrK r 9)[j]'(by simp [arrK]; omega) = .int .u8 ((48 + r / 10 ^ (8 - j) % 10 : Nat) : Int) := by
  simp [arrK]
set_option maxRecDepth 100000 in
set_option maxHeartbeats 4000000 in
theorem nine_any (r : Nat) (hr : r < 4294967296) (w : World) : Calls Tryz.prog 219 #[.int .u32 r] w fun e w' => e = .returned (.string ⟨(nineB r).toArray⟩) ∧ Kept w w' := by
  obtain ⟨w1, hw1⟩ : ∃ w1, w1 = w.alloc (.cells #[.int .u8 0, .int .u8 0, .int .u8 0, .int .u8 0, .int .u8 0, .int .u8 0, .int .u8 0, .int .u8 0, .int .u8 0] 237) := ⟨_, rfl⟩
  have HR1 : Hid (RowAt w1 w.heap.size 237 (arrK r 0)) := Lib.hid (by rw [hw1]; exact RowAt.made w #[.int .u8 0, .int .u8 0, .int .u8 0, .int .u8 0, .int .u8 0, .int .u8 0, .int .u8 0, .int .u8 0, .int .u8 0] 237)
  have HK1 : Hid (Kept w w1) := Lib.hid (by rw [hw1]; exact (Kept.refl w).alloc _)
  have HW1 := Lib.hid hw1
  have HCV : Hid (∀ W, RowAt W w.heap.size 237 (arrK r 9) → (convert 200 9 (.slice (some ⟨w.heap.size, 0, none⟩) 9 9)).run Tryz.prog W = .ok (.string ⟨(nineB r).toArray⟩) W) := Lib.hid fun W hW => by
    have h := run_convert_bytes_back (P := Tryz.prog) W 200 9 5 ⟨w.heap.size, 0, none⟩ 9 (nineB r) Tryz.underlying200 Tryz.underlying5 Tryz.underlying9 (fun j hj => by
      have hj9 : j < 9 := by rw [nineB_len] at hj; exact hj
      have h1 := hW.cell (i := j) (by simp [arrK]; omega)
      rw [arrK_get r j hj9, ← nineB_get r j hj] at h1
      rw [show ({ block := w.heap.size, off := 0 } : Addr).add j = ⟨w.heap.size, j, none⟩ by unfold Addr.add; split <;> simp_all]
      exact h1)
    rw [nineB_len] at h
    exact h
  clear hw1
  go_enter Tryz.func219, Tryz.ntmps219
  go_wp2_with fail
  try rw [← HW1.out]
  go_loopg [0, 4] 9 (fun kx s0 s4 wr => ∃ k : Nat, k ≤ 9 ∧ s4 = .int .i64 (8 - (k : Int)) ∧ 9 - k ≤ kx ∧ s0 = .int .u32 (r / 10 ^ k : Nat) ∧ Hid (RowAt wr w.heap.size 237 (arrK r k)) ∧ Hid (Kept w wr))
  case atStart => exact ⟨0, Nat.zero_le _, rfl, by omega, by simp, HR1, HK1⟩
  case round =>
    obtain ⟨k, hk, rfl, hkx, rfl, HR, HK⟩ := hrel
    by_cases hlt : k < 9
    · have hkn : 0 ≤ (8 - (k : Int)) := by omega
      have HST := Lib.hid (arrK_step r k hlt)
      have hd : r / 10 ^ k < 4294967296 := Nat.lt_of_le_of_lt (Nat.div_le_self _ _) hr
      have HDD : Hid (r / 10 ^ (k + 1) = r / 10 ^ k / 10) := Lib.hid (by rw [Nat.pow_succ, Nat.div_div_eq_div_mul])
      obtain ⟨m, hm⟩ : ∃ m, m = r / 10 ^ k := ⟨_, rfl⟩
      rw [← hm] at hd HST HDD ⊢
      obtain ⟨d, hdd⟩ : ∃ d, d = m % 10 := ⟨_, rfl⟩
      have hd10 : d < 10 := by omega
      have f0 := HR.out.free (8 - k)
      have HLT : Hid (8 - k < (arrK r k).length) := Lib.hid (by simp [arrK]; omega)
      have hc := HR.out.cell (i := 8 - k) HLT.out
      have hix : (8 - (k : Int)).toNat = 8 - k := by omega
      have hi9 : (8 - (k : Int)) < 9 := by omega
      have p1 : Int.tmod (m : Int) 10 = (d : Int) := by rw [hdd]; exact Int.ofNat_tmod m 10
      have p2 : IntKind.u32.wrap (48 + (d : Int)) = ((48 + d : Nat) : Int) := by rw [IntKind.wrap_u32]; omega
      have p3 : IntKind.u8.wrap ((48 + d : Nat) : Int) = ((48 + d : Nat) : Int) := by rw [IntKind.wrap_u8]; omega
      clear hm
      go_wp2
      go_roundg (9 - (k + 1))
      case measure => omega
      case rel =>
        refine ⟨k + 1, by omega, by go_num, Nat.le_refl _, ?_, ?_, ?_⟩
        · rw [HDD.out]; simp
        · refine Lib.hid ?_
          have h := HR.out.store (8 - k) (.int .u8 ((48 + m % 10 : Nat) : Int))
          rw [HST.out] at h
          simpa using h
        · exact Lib.hid (HK.out.store (Nat.le_refl _) _ _)
    · have hke : k = 9 := by omega
      have hkn : ¬ 0 ≤ (8 - (k : Int)) := by omega
      rw [hke] at HR
      have hcv := HCV.out wr HR.out
      clear hke
      go_wp2
      go_ret
      exact ⟨rfl, HK.out⟩
end Go.Proofs.YtbkchheikkbebaaGreatDoor

/-
  Walk: natural.Text of a number of nine digits at most.
-/
namespace Go.Proofs.YtbkchheikkbebaaGreatDoor
open Go.RowKit

theorem info_str : (Tryz.prog.info? 9).map (fun i => (i.zero, i.size, i.bytes)) = some (some (.string .empty), 1, 16) := by kernel_rfl
theorem own_first {w : World} {B : Nat} {e : TypeId} {v y : Value} (h : w.ownsRow B e 1 v 1 [y]) : ∃ g cap, v = .slice (some ⟨g, 0, none⟩) 1 cap ∧ w.cell? ⟨g, 0, none⟩ = some y := by
  obtain ⟨_, h2⟩ := h
  rcases h2 with ⟨_, h⟩ | ⟨g, cap, cur, rfl, h5, h6, h7, h8, h9, h10⟩
  · cases h
  · refine ⟨g, cap, rfl, ?_⟩
    have e1 : (cur.toList.take 1)[0]? = some y := by
      have := congrArg (fun l => l[0]?) h10
      simpa using this
    simp only [World.cell?, h6]
    simpa using e1
theorem nw_one {n : Nat} (h0 : n ≠ 0) (h : n < 4294967296) : nw n = [n] := by
  rw [nw_pos h0, Nat.mod_eq_of_lt h, Nat.div_eq_of_lt h, nw_zero]
set_option maxRecDepth 100000 in
set_option maxHeartbeats 8000000 in
theorem ntext_any (v : Value) (xs : List Nat) (n : Nat) (l : List UInt8) (w : World) (hv : WdsAt w v xs) (hn : nv xs = n) (h0 : n ≠ 0) (h9 : n < 1000000000) (hl : Lib.trimLeftB (nineB n) 48 = l) (hne : l ≠ []) :
    Calls Tryz.prog 159 #[v] w fun e w' => e = .returned (.string ⟨l.toArray⟩) ∧ Kept w w' := by
  have HT : Hid (Calls Tryz.prog 188 #[v] w fun e w' => (∃ v', e = .returned v' ∧ WdsAt w' v' [n]) ∧ Kept w w') := Lib.hid (by have h := ntrim_any v xs w hv; rw [hn, nw_one h0 (by omega)] at h; exact h)
  have HSM : Hid (∀ W va, WdsAt W va [n] → Calls Tryz.prog 218 #[va, .int .u32 (1000000000 : Nat)] W fun e w' => (∃ v', e = .returned (.tuple #[v', .int .u32 n]) ∧ WdsAt w' v' []) ∧ Kept W w') := Lib.hid fun W va h => by
    have h := small_any va [n] 1000000000 W h (by omega) (by omega)
    have e1 : nv [n] = n := by simp [nv]
    rw [e1, Nat.mod_eq_of_lt h9, Nat.div_eq_of_lt h9, nw_zero] at h
    exact h
  have HNI := Lib.hid (fun W => nine_any n (by omega) W)
  obtain ⟨N9, hN9⟩ : ∃ N9, N9 = nineB n := ⟨_, rfl⟩
  have HLEN : Hid (N9.length = 9) := Lib.hid (by rw [hN9]; exact nineB_len n)
  have HN9 : Hid (N9 ≠ []) := Lib.hid fun h => by
    have h2 := HLEN.out
    rw [h] at h2
    simp at h2
  rw [← hN9] at HNI hl
  have HTR : Hid (∀ W, Calls Tryz.prog 221 #[.string ⟨N9.toArray⟩, .string ⟨#[48]⟩] W fun e w' => e = .returned (.string ⟨l.toArray⟩) ∧ w' = W) := Lib.hid fun W => by
    have h := Go.Proofs.Tryz.strings_TrimLeft_one ⟨N9.toArray⟩ 48 (by decide) W
    rw [show (⟨N9.toArray⟩ : ByteArray).data.toList = N9 from rfl, hl] at h
    exact h
  have HNE : Hid ((⟨l.toArray⟩ : ByteArray) ≠ ⟨#[]⟩) := Lib.hid fun h => hne (by
    have := congrArg (fun b => b.data.toList) h
    simpa using this)
  have hie : l.isEmpty = false := by cases l with
    | nil => exact absurd rfl hne
    | cons _ _ => rfl
  have HV := Lib.hid hv
  obtain ⟨av, cv, rfl⟩ := hv.shape
  clear hv hn h9 hl hne hN9
  go_enter Tryz.func159, Tryz.ntmps159
  go_wp2_with fail
  refine HT.out.mono ?_
  rintro e w2 ⟨⟨v2, rfl, hv2⟩, hk2⟩
  have HV2 := Lib.hid hv2
  have HK2 := Lib.hid hk2
  clear hv2 hk2
  go_wp2_with fail
  go_loopg [0, 3] 1 (fun kx s0 s3 wr => ((1 ≤ kx ∧ s3 = .slice none 0 0 ∧ Hid (WdsAt wr s0 [n])) ∨ (Hid (WdsAt wr s0 []) ∧ Hid (wr.ownsRow w2.heap.size 9 1 s3 1 [.string ⟨N9.toArray⟩]))) ∧ Hid (Kept w2 wr))
  case atStart => exact ⟨.inl ⟨Nat.le_refl _, rfl, HV2⟩, Lib.hid (Kept.refl _)⟩
  case round =>
    obtain ⟨hor, HK⟩ := hrel
    rcases hor with ⟨hkx, rfl, HA⟩ | ⟨HA, HO⟩
    · obtain ⟨a0, c0, rfl⟩ := HA.out.shape
      simp only [List.length_singleton] at HA ⊢
      go_wp2_with (first
        | (go_at_call 218; refine (HSM.out _ _ HA.out).mono ?_; rintro e w3 ⟨⟨v3, rfl, hv3⟩, hk3⟩; have HV3 := Lib.hid hv3; have HK3 := Lib.hid hk3; clear hv3 hk3)
        | (go_at_call 219; refine (HNI.out _).mono ?_; rintro e w4 ⟨rfl, hk4⟩; have HK4 := Lib.hid hk4; clear hk4)
        | (at_builtin; refine app_one 195 9 _ 16 info_str Tryz.underlying195 rfl rfl _ _ rfl w2.heap.size _ [] rfl (World.ownsRow_nil _ _ _ _) _ (.string ⟨N9.toArray⟩) rfl (by simp) rfl (by simp) (by simp [maxLen]) (by have := HK.out.size; have := HK3.out.size; have := HK4.out.size; simp; omega) ?_; intro v' w' h5 _ h6; have H5 := Lib.hid h5; have H6 := Lib.hid h6; clear h5 h6))
      go_roundg 0
      case measure => omega
      case rel =>
        have hk := ((HK.out.trans HK3.out).trans HK4.out).alloc (.cells #[.string ⟨N9.toArray⟩] 9)
        refine ⟨.inr ⟨Lib.hid ?_, Lib.hid (by simpa using H5.out)⟩, Lib.hid (hk.app H6.out)⟩
        obtain ⟨a9, c9, i1, i2, i3, i4, _⟩ := HV3.out
        exact ⟨a9, c9, i1, i2, i3, i4, fun i hi => by simp at hi⟩
    · obtain ⟨a0, c0, rfl⟩ := HA.out.shape
      simp only [List.length_nil] at HA ⊢
      obtain ⟨g3, cap3, rfl, hc3⟩ := own_first HO.out
      have HC3 := Lib.hid hc3
      clear hc3
      go_wp2_with fail
      obtain ⟨w4, hw4⟩ : ∃ w4, w4 = wr.alloc (.cells #[.pointer none, .slice none 0 0] 202) := ⟨_, rfl⟩
      have HBK4 : Hid (w4.heap[wr.heap.size]? = some (.cells #[.pointer none, .slice none 0 0] 202 (0, 0))) := Lib.hid (by rw [hw4]; exact heap_alloc_new wr _)
      have HKR4 : Hid (Kept wr w4) := Lib.hid (by rw [hw4]; exact (Kept.refl wr).alloc _)
      try rw [← hw4]
      clear hw4
      have HSG : Hid (∀ W, Lib.BuilderAt 202 5 wr.heap.size wr.heap.size (.pointer (some ⟨wr.heap.size, 0, none⟩)) (Lib.byteCells N9) W → Kept wr W → Calls Tryz.prog 222 #[.pointer (some ⟨wr.heap.size, 0, none⟩)] W fun e w' => e = .returned (.string ⟨N9.toArray⟩) ∧ Kept wr w') := Lib.hid fun W hb hk => (Go.Proofs.Tryz.Builder_String wr.heap.size wr.heap.size N9 W (.inr hb) HN9.out).mono fun e w' ⟨h1, h2⟩ => ⟨h1, hk.app h2⟩
      go_loopg [7] 1 (fun kx s7 W => ((1 ≤ kx ∧ s7 = .int .i64 0 ∧ Hid (W.heap[wr.heap.size]? = some (.cells #[.pointer none, .slice none 0 0] 202 (0, 0)))) ∨ (s7 = .int .i64 (-1) ∧ Hid (Lib.BuilderAt 202 5 wr.heap.size wr.heap.size (.pointer (some ⟨wr.heap.size, 0, none⟩)) (Lib.byteCells N9) W))) ∧ Hid (Kept wr W))
      case atStart => exact ⟨.inl ⟨Nat.le_refl _, rfl, HBK4⟩, HKR4⟩
      case round =>
        obtain ⟨hor, HKW⟩ := hrel
        rcases hor with ⟨hkx, rfl, HB⟩ | ⟨rfl, HB⟩
        · have hce := HKW.out.cell HC3.out
          go_wp2_with (go_at_call 220; refine (bwrite_new _ _ ⟨N9.toArray⟩ _ (Nat.le_refl _) HB.out (by show N9.toArray.size ≤ _; rw [List.size_toArray, HLEN.out]; omega) HKW.out.size).mono ?_; rintro e w5 ⟨rfl, hb5, hk5⟩; have HB5 := Lib.hid hb5; have HK5 := Lib.hid hk5; clear hb5 hk5)
          go_roundg 0
          case measure => omega
          case rel => exact ⟨.inr ⟨by go_num, Lib.hid HB5.out⟩, Lib.hid (HKW.out.app HK5.out)⟩
        · go_wp2_with (first
            | (go_at_call 222; refine (HSG.out _ HB.out HKW.out).mono ?_; rintro e w6 ⟨rfl, hk6⟩; have HK6 := Lib.hid hk6; clear hk6)
            | (go_at_call 221; refine (HTR.out _).mono ?_; rintro e w7 ⟨rfl, rfl⟩))
          go_ret
          exact ⟨rfl, HK2.out.trans (HK.out.trans HK6.out)⟩
end Go.Proofs.YtbkchheikkbebaaGreatDoor

/-
  Walk: rational.Text of a short positive fraction; rational.Make.
-/
namespace Go.Proofs.YtbkchheikkbebaaGreatDoor
open Go.RowKit

theorem parts_can {q : Rat} (h : q.num ≠ 0) : partsR (canR q) = (decide (q.num < 0), nw q.num.natAbs, nw q.den) := by
  have hv := canR_valid q
  have hc : canR q = ⟨decide (q.num < 0), nw q.num.natAbs, nw q.den⟩ := by unfold canR; rw [if_neg h]
  unfold partsR
  rw [if_pos]
  · rw [hc]
  · refine ⟨hv, ?_⟩
    rw [hc]
    exact fun e => absurd (nw_eq_nil.1 e) (by omega)
set_option maxRecDepth 100000 in
set_option maxHeartbeats 4000000 in
theorem rtext_frac (v : Value) (q : Rat) (a b : Nat) (la lb s : List UInt8) (w : World) (hv : RatAt w v (canR q)) (hq : q.num = (a : Int)) (hd : q.den = b) (ha0 : a ≠ 0) (ha9 : a < 1000000000) (hb1 : 1 < b) (hb9 : b < 1000000000)
    (hla : Lib.trimLeftB (nineB a) 48 = la) (hlb : Lib.trimLeftB (nineB b) 48 = lb) (hna : la ≠ []) (hnb : lb ≠ []) (hs : la ++ 47 :: lb = s) :
    Calls Tryz.prog 83 #[v] w fun e w' => e = .returned (.string ⟨s.toArray⟩) ∧ Kept w w' := by
  have hp : partsR (canR q) = (false, [a], [b]) := by
    rw [parts_can (by rw [hq]; omega), hq, hd, Int.natAbs_natCast, nw_one ha0 (by omega), nw_one (n := b) (by omega) (by omega)]
    simp
  have HPA : Hid (∀ W, Kept w W → Calls Tryz.prog 116 #[v] W fun e w' => (∃ u1 u2, e = .returned (.tuple #[.bool false, u1, u2]) ∧ WdsAt w' u1 [a] ∧ WdsAt w' u2 [b]) ∧ Kept W w') := Lib.hid fun W hk => by
    have hsh : (canR q).Short 1 := by
      have hc : canR q = ⟨decide (q.num < 0), nw q.num.natAbs, nw q.den⟩ := by unfold canR; rw [if_neg (by rw [hq]; omega)]
      rw [hc, hq, hd, Int.natAbs_natCast, nw_one ha0 (by omega), nw_one (n := b) (by omega) (by omega)]
      exact ⟨Nat.le_refl _, Nat.le_refl _⟩
    have h := rparts_any v (canR q) W (hv.kept hk) ⟨Nat.le_trans hsh.1 (by omega), Nat.le_trans hsh.2 (by omega)⟩
    rw [hp] at h
    exact h
  have HTA := Lib.hid (fun W u (h : WdsAt W u [a]) => ntext_any u [a] a la W h (by simp [nv]) ha0 ha9 hla hna)
  have HTB := Lib.hid (fun W u (h : WdsAt W u [b]) => ntext_any u [b] b lb W h (by simp [nv]) (by omega) hb9 hlb hnb)
  have HCM : Hid (∀ W u1 u2, WdsAt W u1 [b] → WdsAt W u2 [1] → Calls Tryz.prog 118 #[u1, u2] W fun e w' => e = .returned (.int .i64 1) ∧ Kept W w') := Lib.hid fun W u1 u2 h1 h2 => by
    have h := ncmp_any u1 u2 [b] [1] W h1 h2
    have e1 : nv [b] = b := by simp [nv]
    have e2 : nv [1] = 1 := rfl
    rw [e1, e2] at h
    have e3 : cmpN b 1 = 1 := by unfold cmpN; rw [if_neg (by omega), if_pos (by omega)]
    rwa [e3] at h
  have HS : Hid ((⟨la.toArray⟩ : ByteArray) ++ ((⟨#[47]⟩ : ByteArray) ++ ⟨lb.toArray⟩) = ⟨s.toArray⟩) := Lib.hid (by
    apply ByteArray.ext
    rw [ByteArray.data_append, ByteArray.data_append]
    apply Array.toList_inj.1
    simp [← hs])
  have hl9 : la.length ≤ 9 := by rw [← hla, ← nineB_len a]; exact (List.dropWhile_sublist _).length_le
  have hl8 : lb.length ≤ 9 := by rw [← hlb, ← nineB_len b]; exact (List.dropWhile_sublist _).length_le
  have hz1 : ¬ 9223372036854775807 < 1 + lb.length := by omega
  have hz2 : ¬ 9223372036854775807 < la.length + (1 + lb.length) := by omega
  obtain ⟨u1, u2, rfl, h1, h2⟩ := hv
  obtain ⟨a1, c1, rfl⟩ := h1.shape
  obtain ⟨a2, c2, rfl⟩ := h2.shape
  generalize (canR q).num.length = n1 at *
  generalize (canR q).den.length = n2 at *
  generalize (canR q).neg = b0 at *
  clear h1 h2 hp hq hd ha0 ha9 hb1 hb9 hla hlb hna hnb hs hl9 hl8
  go_enter Tryz.func83, Tryz.ntmps83
  go_wp2_with (first
    | (go_at_call 116; refine (HPA.out _ ((Kept.refl w).alloc _)).mono ?_; rintro e w2 ⟨⟨u1, u2, rfl, hu1, hu2⟩, hk2⟩; have HU1 := Lib.hid hu1; have HU2 := Lib.hid hu2; have HK2 := Lib.hid (((Kept.refl w).alloc _).trans hk2); clear hu1 hu2 hk2)
    | (go_at_call 159; (with_reducible refine (HTA.out _ _ HU1.out).mono ?_); rintro e w3 ⟨rfl, hk3⟩; have HU3 := Lib.hid (HU2.out.kept hk3); have HK3 := Lib.hid (HK2.out.trans hk3); clear hk3)
    | (go_at_call 126; refine (rone_any _).mono ?_; rintro e w4 ⟨⟨u4, rfl, hu4⟩, hk4⟩; have HU4 := Lib.hid hu4; have HU5 := Lib.hid (HU3.out.kept hk4); have HK4 := Lib.hid (HK3.out.trans hk4); clear hu4 hk4)
    | (go_at_call 118; refine (HCM.out _ _ _ HU5.out HU4.out).mono ?_; rintro e w5 ⟨rfl, hk5⟩; have HU6 := Lib.hid (HU5.out.kept hk5); have HK5 := Lib.hid (HK4.out.trans hk5); clear hk5)
    | (go_at_call 159; refine (HTB.out _ _ HU6.out).mono ?_; rintro e w6 ⟨rfl, hk6⟩; have HK6 := Lib.hid (HK5.out.trans hk6); clear hk6))
  go_ret
  exact ⟨by rw [HS.out]; rfl, HK6.out⟩
set_option maxRecDepth 100000 in
set_option maxHeartbeats 4000000 in
theorem rmake_any (n d : Nat) (w : World) (hn : n < 9223372036854775808) (hd : d < 9223372036854775808) (hd0 : d ≠ 0) : Calls Tryz.prog 82 #[.int .i64 n, .int .i64 d] w fun e w' => (∃ v', e = .returned (.tuple #[v', .nilIface]) ∧ RatAt w' v' (canR (mkRat n d))) ∧ Kept w w' := by
  have HS1 : Hid (∀ W, Calls Tryz.prog 125 #[.int .i64 n] W fun e w' => (∃ v', e = .returned v' ∧ WdsAt w' v' (nw n)) ∧ Kept W w') := Lib.hid fun W => by have h := rsz_any n W (by omega) (by omega); rw [Int.natAbs_natCast] at h; exact h
  have HS2 : Hid (∀ W, Calls Tryz.prog 125 #[.int .i64 d] W fun e w' => (∃ v', e = .returned v' ∧ WdsAt w' v' (nw d)) ∧ Kept W w') := Lib.hid fun W => by have h := rsz_any d W (by omega) (by omega); rw [Int.natAbs_natCast] at h; exact h
  obtain ⟨R, hR⟩ : ∃ R, R = canR (mkRat n d) := ⟨_, rfl⟩
  have HFO : Hid (∀ W u1 u2, WdsAt W u1 (nw n) → WdsAt W u2 (nw d) → Calls Tryz.prog 120 #[.bool false, u1, u2] W fun e w' => (∃ v, e = .returned v ∧ RatAt w' v R) ∧ Kept W w') := Lib.hid fun W u1 u2 k1 k2 => by
    have hl1 : (nw n).length ≤ 2 := nw_len_lt.2 (by rw [show (4294967296 : Nat) ^ 2 = 18446744073709551616 by rfl]; omega)
    have hl2 : (nw d).length ≤ 2 := nw_len_lt.2 (by rw [show (4294967296 : Nat) ^ 2 = 18446744073709551616 by rfl]; omega)
    have h := rform_any false u1 u2 _ _ W k1 k2 (by omega) (by omega) (by rw [nv_nw]; exact hd0)
    rw [nv_nw, nv_nw, form_can _ _ _ hd0, show sg false n = (n : Int) from rfl, ← hR] at h
    exact h
  rw [← hR]
  generalize nw n = X at *
  generalize nw d = Y at *
  obtain ⟨w2, hw2⟩ : ∃ w2, w2 = w.alloc (.cells #[.bool false, .slice none 0 0, .slice none 0 0] 39) := ⟨_, rfl⟩
  have HR : Hid (RowAt w2 w.heap.size 39 [.bool false, .slice none 0 0, .slice none 0 0]) := Lib.hid (by rw [hw2]; exact RowAt.made w #[.bool false, .slice none 0 0, .slice none 0 0] 39)
  have HFX : Hid (FixAt w2 w.heap.size [.bool false, .slice none 0 0, .slice none 0 0]) := Lib.hid (by rw [hw2]; exact FixAt.made w #[.bool false, .slice none 0 0, .slice none 0 0] 39)
  have HK0 : Hid (Kept w w2) := Lib.hid (by rw [hw2]; exact (Kept.refl w).alloc _)
  have HW2 := Lib.hid hw2
  have hn0 : ¬ (n : Int) < 0 := by omega
  have hdn : ¬ (d : Int) < 0 := by omega
  have hdz : ((d : Int) == 0) = false := by simp; omega
  have hdz2 : ¬ (d : Int) = 0 := by omega
  clear hw2 hR hn hd hd0
  go_enter Tryz.func82, Tryz.ntmps82
  go_wp2_with fail
  rw [← HW2.out]
  refine (HS1.out _).mono ?_
  rintro e w3 ⟨⟨v3, rfl, hv3⟩, hk3⟩
  have HV3 := Lib.hid hv3
  have HR3 := Lib.hid (HR.out.kept hk3)
  have HF3 := Lib.hid (HFX.out.kept hk3)
  have HK3 := Lib.hid (HK0.out.trans hk3)
  clear hv3 hk3
  go_wp2_with fail
  refine (HS2.out _).mono ?_
  rintro e w4 ⟨⟨v4, rfl, hv4⟩, hk4⟩
  have HV4 := Lib.hid hv4
  have HV3' := Lib.hid (HV3.out.kept hk4)
  have HR4 := Lib.hid (HR3.out.kept hk4)
  have HF4 := Lib.hid (HF3.out.kept hk4)
  have HK4 := Lib.hid (HK3.out.trans hk4)
  clear hv4 hk4
  go_wp2_with fail
  refine (HFO.out _ _ _ HV3'.out HV4.out).mono ?_
  rintro e w10 ⟨⟨v10, rfl, hv10⟩, hk10⟩
  have hr10 := HR4.out.kept hk10
  have HF10 := Lib.hid (HF4.out.kept hk10)
  have HK10 := Lib.hid (HK4.out.trans hk10)
  obtain ⟨u7, u8, rfl, k7, k8⟩ := hv10
  obtain ⟨a7, c7, rfl⟩ := k7.shape
  obtain ⟨a8, c8, rfl⟩ := k8.shape
  obtain ⟨y0, y1, y2, hra⟩ := rat_stored hr10 HF10.out k7 k8
  have g0 := hr10.cell (i := 0) (by simp)
  have g1 := hr10.cell (i := 1) (by simp)
  have g2 := hr10.cell (i := 2) (by simp)
  have f0 := hr10.free 0
  have f1 := hr10.free 1
  have f2 := hr10.free 2
  have HRA := Lib.hid hra
  have Y0 := Lib.hid y0
  have Y1 := Lib.hid y1
  have Y2 := Lib.hid y2
  clear hra y0 y1 y2 k7 k8 hr10 hk10
  generalize R.num.length = n7 at *
  generalize R.den.length = n8 at *
  go_wp2
  refine bodyPost_ret (v := .tuple #[.agg #[.bool R.neg, .slice a7 n7 c7, .slice a8 n8 c8], .nilIface]) ?_ rfl ⟨⟨_, rfl, HRA.out⟩, ?_⟩
  · simp [results, Tryz.results82, go_sem, Y0.out, Y1.out, Y2.out]
  · exact ((HK10.out.store (by omega) _ _).store (by omega) _ _).store (by omega) _ _
end Go.Proofs.YtbkchheikkbebaaGreatDoor

/-
  Plain: chances; the example of the chapters 38 to 40.
-/
namespace Go.Proofs.YtbkchheikkbebaaGreatDoor
open Go.RowKit

/-- What Prob answers: the error's number, the sum. -/
def prbT (L : List (Nat × Nat)) (ps : List Rw) : Nat × Rat :=
  if L.any (fun c => decide ((ps.length : Int) ≤ gtK (c.1 ||| c.2))) = true then (11, 0) else if badR ps = true then (3, 0) else (0, sumWs ps L L.length)
def prbD (L0 : List (Int × Int)) (ps : List Rw) : Nat × Rat := if chkD L0 ≠ 0 then (chkD L0, 0) else prbT (L0.map natC) ps
theorem prob_can {q : Rat} (h0 : 0 ≤ q) (h1 : q ≤ 1) : probR (canR q) = true := by
  rw [prob_sgn (canR_ok q), canR_valid, ratOf_can]
  have s1 : 0 ≤ sgnR q := by
    unfold sgnR
    by_cases h : q = 0
    · rw [if_pos h]; decide
    · rw [if_neg h, if_neg (by grind)]; decide
  have s2 : sgnR (q - ((1 : Int) : Rat)) ≤ 0 := by
    have e : ((1 : Int) : Rat) = 1 := rfl
    rw [e]
    unfold sgnR
    by_cases h : q - 1 = 0
    · rw [if_pos h]; decide
    · rw [if_neg h, if_pos (by grind)]; decide
  rw [decide_eq_true s1, decide_eq_true s2]; rfl
theorem unit_prob {r : Rw} (hw : r.Ok) (h : probR r = true) : 0 ≤ ratOf r ∧ ratOf r ≤ 1 := by
  rw [prob_sgn hw, Bool.and_eq_true, Bool.and_eq_true, decide_eq_true_eq, decide_eq_true_eq] at h
  obtain ⟨_, h1, h2⟩ := h
  have e : ((1 : Int) : Rat) = 1 := rfl
  rw [e] at h2
  unfold sgnR at h1 h2
  constructor
  · split at h1
    · grind
    · split at h1 <;> first | grind | omega
  · split at h2
    · grind
    · split at h2 <;> first | grind | omega
theorem qOf_unit {ps : List Rw} (hok : ∀ r ∈ ps, r.Ok) (hb : badR ps = false) : ∀ i, i < ps.length → 0 ≤ qOf ps i ∧ qOf ps i ≤ 1 := fun i hi => by
  have e : ps.getD i default = ps[i] := by simp [List.getD_eq_getElem?_getD, hi]
  unfold qOf
  rw [e]
  refine unit_prob (hok _ (List.getElem_mem hi)) ?_
  unfold badR at hb
  rw [List.any_eq_false] at hb
  have := hb ps[i] (List.getElem_mem hi)
  simpa using this
theorem can_short1 {q : Rat} (h1 : q.num.natAbs < 4294967296) (h2 : q.den < 4294967296) : (canR q).Short 1 := by
  unfold canR
  split
  · exact ⟨Nat.zero_le _, Nat.zero_le _⟩
  · exact ⟨nw_len_lt.2 (by simpa using h1), nw_len_lt.2 (by simpa using h2)⟩
/-- The example's probabilities. -/
def exPs : List Rw := [canR (mkRat 1 10), canR (mkRat 1 5), canR (mkRat 1 4)]
theorem ex_short : ∀ r ∈ exPs, r.Short 1 := fun r hr => by
  simp only [exPs, List.mem_cons, List.not_mem_nil, or_false] at hr
  rcases hr with rfl | rfl | rfl
  · exact can_short1 (by decide +kernel) (by decide +kernel)
  · exact can_short1 (by decide +kernel) (by decide +kernel)
  · exact can_short1 (by decide +kernel) (by decide +kernel)
theorem ex_short3 : ∀ r ∈ exPs, r.Short 3 := fun r hr => ⟨Nat.le_trans (ex_short r hr).1 (by omega), Nat.le_trans (ex_short r hr).2 (by omega)⟩
theorem ex_good : badR exPs = false := by
  unfold badR
  rw [List.any_eq_false]
  intro r hr
  simp only [exPs, List.mem_cons, List.not_mem_nil, or_false] at hr
  rcases hr with rfl | rfl | rfl
  · rw [prob_can (by decide +kernel) (by decide +kernel)]; simp
  · rw [prob_can (by decide +kernel) (by decide +kernel)]; simp
  · rw [prob_can (by decide +kernel) (by decide +kernel)]; simp
set_option linter.unusedSimpArgs false in
theorem chk_16 : chkI [1, 6] = 0 := by
  obtain ⟨h0, h1, h2, h3, h4, h5, h6, h7⟩ := pcs
  simp +decide [chkI, errI, okI, natsI, sortK, insK, ltK, minK, minN, keepN, h0, h1, h2, h3, h4, h5, h6, h7]
end Go.Proofs.YtbkchheikkbebaaGreatDoor

/-
  Plain: the probability of accepted cubes lies from 0 to 1 and is the sum of those of its cubes alone.
-/
namespace Go.Proofs.YtbkchheikkbebaaGreatDoor
open Go.RowKit

theorem bit_top {s i : Nat} (hs : s < 16777216) (h : s.testBit i = true) : (i : Int) ≤ gtK s := by
  unfold gtK
  have h1 : 2 ^ i ≤ s := Nat.ge_two_pow_of_testBit h
  have h64 : s < 2 ^ 64 := Nat.lt_of_lt_of_le hs (by decide)
  have h4 := bitLen_lt h64
  have h5 : i < Lib.bitLen s := (Nat.pow_lt_pow_iff_right (by omega : 1 < 2)).1 (Nat.lt_of_le_of_lt h1 h4)
  omega
theorem chkD_one {c : Int × Int} (h : chkCb c = 0) : chkD [c] = 0 := by
  have h1 : chkCs [c] = 0 := by unfold chkCs; rw [if_neg (by rw [h]; simp)]; rfl
  unfold chkD
  rw [if_neg (by simp), if_neg (by rw [h1]; simp), if_neg]
  have : metT [c] 1 = false := rfl
  show ¬ metT [c] 1 = true
  rw [this]
  simp
theorem cbs_one (w : World) (d : Int × Int) : CbsAt (w.alloc (.cells #[.int .i64 d.1, .int .i64 d.2] 55)) (.slice (some ⟨w.heap.size, 0, none⟩) 1 1) [d] :=
  ⟨_, _, rfl, ⟨by simp, fun h => by cases h⟩, by simp, fun i hi => ⟨_, _, rfl, by
    have e : i = 0 := by simp at hi; omega
    subst e
    exact range_two w _ _ _⟩⟩
end Go.Proofs.YtbkchheikkbebaaGreatDoor

/-
  Plain: what the laws of chapter 39 ask of the sums and bounds.
-/
namespace Go.Proofs.YtbkchheikkbebaaGreatDoor
open Go.RowKit

/-- An accepted family and fractions. -/
structure Rdy (xs : List Int) (ps : List Rw) : Prop where
  ok : chkI xs = 0
  len : xs.length ≤ 12
  gt : ∀ s ∈ natsI xs, s < 16777216 ∧ gtK s < (ps.length : Int)
  bad : badR ps = false
theorem incE_zero {xs : List Int} {ps : List Rw} {k : Int} (h : incE xs ps k = 0) : Rdy xs ps ∧ 0 ≤ k ∧ k ≤ 12 := by
  unfold incE at h
  by_cases h1 : chkI xs = 0
  · rw [if_neg (by omega)] at h
    by_cases h2 : 12 < xs.length
    · rw [if_pos h2] at h; cases h
    · rw [if_neg h2] at h
      split at h
      · cases h
      · rename_i h3
        split at h
        · cases h
        · rename_i h4
          split at h
          · cases h
          · rename_i h5
            obtain ⟨hlen, hok⟩ := chk_ok h1
            obtain ⟨_, hmk⟩ := nats_of hok
            refine ⟨⟨h1, by omega, fun s hs => ⟨by have := hmk s hs; unfold Mk at this; omega, ?_⟩, by simpa using h4⟩, by omega, by omega⟩
            refine Classical.byContradiction fun hn => h3 (List.any_eq_true.2 ⟨s, hs, decide_eq_true (by omega)⟩)
  · rw [if_pos h1] at h; exact absurd h h1
theorem Rdy.inc {xs : List Int} {ps : List Rw} (h : Rdy xs ps) {k : Int} (h0 : 0 ≤ k) (h1 : k ≤ 12) : incE xs ps k = 0 := by
  unfold incE
  rw [if_neg (by rw [h.ok]; simp), if_neg (by have := h.len; omega), if_neg, if_neg (by rw [h.bad]; simp), if_neg (by omega)]
  intro h2
  obtain ⟨s, hs, h3⟩ := List.any_eq_true.1 h2
  have := (h.gt s hs).2
  have := of_decide_eq_true h3
  omega
theorem incE_le (xs : List Int) (ps : List Rw) (k : Int) : incE xs ps k ≤ 13 := by
  have hc : chkI xs ≤ 13 := by
    unfold chkI
    rcases err_cases xs with h | h | h <;> rw [h] <;> simp <;> (try split) <;> (try split) <;> omega
  unfold incE
  split
  · exact hc
  · split
    · omega
    · split
      · omega
      · split
        · omega
        · split <;> omega
theorem Rdy.nlen {xs : List Int} {ps : List Rw} (_ : Rdy xs ps) : (natsI xs).length = xs.length := by unfold natsI; rw [List.length_map]
theorem Rdy.bits {xs : List Int} {ps : List Rw} (h : Rdy xs ps) : ∀ t ∈ natsI xs, ∀ i, t.testBit i = true → i < ps.length := fun t ht i hi => by
  have h1 := h.gt t ht
  have h2 := bit_top h1.1 hi
  omega
theorem Rdy.unit {xs : List Int} {ps : List Rw} (h : Rdy xs ps) (hok : ∀ r ∈ ps, r.Ok) : ∀ i, i < ps.length → 0 ≤ qOf ps i ∧ qOf ps i ≤ 1 := qOf_unit hok h.bad
theorem alt_top {xs : List Int} {ps : List Rw} (h : Rdy xs ps) {k : Nat} (hk : xs.length ≤ k) : altR ps (natsI xs) k = altR ps (natsI xs) 12 := by
  unfold altR
  rw [alt_exact h.bits (by rw [h.nlen]; exact hk), alt_exact h.bits (by rw [h.nlen]; exact h.len)]
theorem alt_ge {xs : List Int} {ps : List Rw} (h : Rdy xs ps) (hok : ∀ r ∈ ps, r.Ok) {k : Nat} (hk : k % 2 = 1) : altR ps (natsI xs) 12 ≤ altR ps (natsI xs) k := by
  unfold altR
  rw [alt_exact h.bits (k := 12) (by rw [h.nlen]; exact h.len)]
  exact alt_odd h.bits (h.unit hok) hk
theorem alt_le {xs : List Int} {ps : List Rw} (h : Rdy xs ps) (hok : ∀ r ∈ ps, r.Ok) {k : Nat} (hk : k % 2 = 0) : altR ps (natsI xs) k ≤ altR ps (natsI xs) 12 := by
  unfold altR
  rw [alt_exact h.bits (k := 12) (by rw [h.nlen]; exact h.len)]
  exact alt_even h.bits (h.unit hok) hk
theorem bnd_has {xs : List Int} {ps : List Rw} (h : Rdy xs ps) (hok : ∀ r ∈ ps, r.Ok) (k : Nat) : loR ps (natsI xs) k ≤ altR ps (natsI xs) 12 ∧ altR ps (natsI xs) 12 ≤ hiR ps (natsI xs) k := by
  unfold altR loR hiR
  rw [alt_exact h.bits (k := 12) (by rw [h.nlen]; exact h.len)]
  exact bnd_in h.bits (h.unit hok) k
theorem lo_mono (ps : List Rw) (l : List Nat) (k : Nat) : loR ps l k ≤ loR ps l (k + 1) := bndLo_mono k
theorem hi_mono (ps : List Rw) (l : List Nat) (k : Nat) : hiR ps l (k + 1) ≤ hiR ps l k := bndHi_mono k
theorem bnd_end {xs : List Int} {ps : List Rw} (h : Rdy xs ps) (hok : ∀ r ∈ ps, r.Ok) {k : Nat} (hk : xs.length < k) : hiR ps (natsI xs) k - loR ps (natsI xs) k = 0 ∨ altR ps (natsI xs) 12 = 0 := by
  by_cases h0 : natsI xs = []
  · right
    unfold altR
    rw [alt_exact h.bits (k := 12) (by rw [h.nlen]; exact h.len), h0]
    exact (EX_congr (G := fun _ => 0) fun s _ => by simp [covB, ind]).trans EX_const
  · left
    have := bnd_point h.bits (h.unit hok) (k := k) (by rw [h.nlen]; exact hk) h0
    unfold loR hiR
    rw [this.1, this.2, Rat.sub_self]
theorem inc_zero (ps : List Rw) (l : List Nat) : incR ps l 0 = 1 := by
  have h := incC_zero ps l 0
  have e : ∀ n, prodQ 0 ps n = 1 := by
    intro n
    induction n with
    | zero => rfl
    | succ n ih => rw [prodQ_succ, if_neg (by simp), ih]
  rw [e] at h
  exact h
theorem inc_one (ps : List Rw) (l : List Nat) : ∀ j, j ≤ l.length → incR ps (l.take j) 1 = sumQ l ps j := by
  intro j
  induction j with
  | zero => intro _; rfl
  | succ j ih =>
    intro hj
    have e : l.take (j + 1) = l.take j ++ [l[j]] := List.take_succ_eq_append_getElem (by omega)
    have hl : l.getD j 0 = l[j] := by simp [List.getD_eq_getElem?_getD, show j < l.length by omega]
    rw [sumQ_succ, ← ih (by omega), e, hl]
    unfold incR
    rw [incQ_last, incQ_zero, Nat.zero_or, pQ_prod]
theorem inc_single (ps : List Rw) (s : Nat) : incR ps [s] 1 = prodQ s ps ps.length := by
  have h := inc_one ps [s] 1 (by simp)
  rw [show [s].take 1 = [s] from rfl] at h
  rw [h, sumQ_succ]
  show (0 : Rat) + prodQ s ps ps.length = _
  exact Rat.zero_add _
end Go.Proofs.YtbkchheikkbebaaGreatDoor

/-
  Walk: the first question of the laws of chapter 39.
-/
namespace Go.Proofs.YtbkchheikkbebaaGreatDoor
open Go.RowKit

/-- A list is too long to be looked at. -/
def many9 (n : Nat) : Bool := (decide (6 < n) && decide (n ≤ 12)) || decide (2000 < n)
set_option maxRecDepth 100000 in
theorem many39_any (a : Option Addr) (n c : Nat) (w : World) : Calls Tryz.prog 37 #[.slice a n c] w fun e w' => e = .returned (.bool (many9 n)) ∧ w' = w := by
  obtain ⟨b, hb⟩ : ∃ b, b = many9 n := ⟨_, rfl⟩
  rw [← hb]
  unfold many9 at hb
  by_cases h1 : 6 < n
  · have e1 : (6 : Int) < (n : Int) := by omega
    by_cases h2 : n ≤ 12
    · have e2 : (n : Int) ≤ 12 := by omega
      rw [decide_eq_true h1, decide_eq_true h2] at hb
      subst hb
      clear h1 h2
      go_enter Tryz.func37, Tryz.ntmps37
      go_wp2
      go_ret
      exact ⟨rfl, rfl⟩
    · have e2 : ¬ (n : Int) ≤ 12 := by omega
      rw [decide_eq_true h1, decide_eq_false h2] at hb
      by_cases h3 : 2000 < n
      · have e3 : (2000 : Int) < (n : Int) := by omega
        rw [decide_eq_true h3] at hb
        subst hb
        clear h1 h2 h3
        go_enter Tryz.func37, Tryz.ntmps37
        go_wp2
        go_ret
        exact ⟨rfl, rfl⟩
      · have e3 : ¬ (2000 : Int) < (n : Int) := by omega
        rw [decide_eq_false h3] at hb
        subst hb
        clear h1 h2 h3
        go_enter Tryz.func37, Tryz.ntmps37
        go_wp2
        go_ret
        exact ⟨rfl, rfl⟩
  · have e1 : ¬ (6 : Int) < (n : Int) := by omega
    have e3 : ¬ (2000 : Int) < (n : Int) := by omega
    rw [decide_eq_false h1, decide_eq_false (show ¬ 2000 < n by omega)] at hb
    subst hb
    clear h1
    go_enter Tryz.func37, Tryz.ntmps37
    go_wp2
    go_ret
    exact ⟨rfl, rfl⟩
theorem many9_small {n : Nat} (h : many9 n = false) : n ≤ 6 ∨ 12 < n := by
  unfold many9 at h
  simp only [Bool.or_eq_false_iff, Bool.and_eq_false_iff, decide_eq_false_iff_not] at h
  omega
end Go.Proofs.YtbkchheikkbebaaGreatDoor
