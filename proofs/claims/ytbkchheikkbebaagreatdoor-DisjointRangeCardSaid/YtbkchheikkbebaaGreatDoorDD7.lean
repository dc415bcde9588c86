import Derived.WalkKit
import Derived.WalkSpells
import Derived.WalkLawsBesides
import Derived.Deep.QuietTactic
import Derived.BigQuiet
import Derived.Lib.Hide
import Derived.Shelf.Abstract
import Derived.Deep.RegionWith
import Derived.Laws.AppendOwnNone
import Derived.Lib.AppendZerosOnto
import Derived.Lib.SliceRun
import Derived.Lib.SlicesCompact
import Derived.Shelf.SlSortCmp.NoneTotal
import Derived.Maps.OwnOps
import Derived.Maps.OwnSet
import Derived.Maps.Views
import Derived.Deep.MidRow
import Derived.Deep.RegionHeld3
import Derived.Deep.AppendLies
import Derived.Deep.RegionLaw
import Derived.IntWalk
import Derived.StillTailTactics
import Derived.ProofKit
import Derived.OpenShut
import Derived.SizedLaws
import Derived.Lib.SmallJoins
import Derived.Deep.Slices
import Derived.Deep.Fields
import Derived.Deep.Strs
import Derived.Carry
import Derived.BigRegion
import Derived.ChangeAlike
import Derived.Deep.DeepCutAuto
import Derived.Deep.LoopGhost
import Derived.Lib.ItoaNum
import Derived.RegionTactic
import Derived.Shelf.SlSortCmp.PdqK
import Derived.Sort.LotA
import Derived.Sort.LotD2
import Derived.Lib.BitFns
import Derived.Deep.CutBlock
import Derived.Test.YtbkchheikkbebaaGreatDoorDD6
import Derived.Test.YtbkchheikkbebaaGreatDoorDD4
import Derived.Test.YtbkchheikkbebaaGreatDoorDD1
import Derived.Test.YtbkchheikkbebaaGreatDoorDD2
/-
  Cubes in memory: slices of pairs of ints that can be read, rows of the call's own, append.
-/
namespace Go.Proofs.YtbkchheikkbebaaGreatDoor
open Go.RowKit

def ccells (c : Int × Int) : List Value := [.int .i64 c.1, .int .i64 c.2]
abbrev cubV (c : Int × Int) : Value := .agg #[.int .i64 c.1, .int .i64 c.2]
def ofC (c : Nat × Nat) : Int × Int := ((c.1 : Int), (c.2 : Int))
def ofCs (l : List (Nat × Nat)) : List (Int × Int) := l.map ofC
theorem ofCs_len (l : List (Nat × Nat)) : (ofCs l).length = l.length := List.length_map ..
theorem ofCs_app (a b : List (Nat × Nat)) : ofCs (a ++ b) = ofCs a ++ ofCs b := List.map_append ..
theorem rangeC_kept {w w' : World} {b o : Nat} {cs : List Value} (h : w.rangeAt b o cs) (hk : Kept w w') : w'.rangeAt b o cs := fun j v hj => hk.cell (h j v hj)
/-- A slice of cubes that can be read. -/
def CbsAt (w : World) (v : Value) (L : List (Int × Int)) : Prop :=
  ∃ (a : Option Addr) (c : Nat), v = .slice a L.length c ∧ (L.length ≤ c ∧ (a = none → c = 0)) ∧ L.length ≤ 1099511627776 ∧
    ∀ i (h : i < L.length), ∃ b o, a = some ⟨b, o, none⟩ ∧ w.rangeAt b (o + i * 2) (ccells L[i])
theorem CbsAt.kept {w w' : World} {v : Value} {L : List (Int × Int)} (h : CbsAt w v L) (hk : Kept w w') : CbsAt w' v L := by
  obtain ⟨a, c, h1, h2, h3, h5⟩ := h
  exact ⟨a, c, h1, h2, h3, fun i hi => let ⟨b, o, h6, h7⟩ := h5 i hi; ⟨b, o, h6, rangeC_kept h7 hk⟩⟩
theorem CbsAt.shape {w : World} {v : Value} {L : List (Int × Int)} (h : CbsAt w v L) : ∃ a c, v = .slice a L.length c := by
  obtain ⟨a, c, h, _⟩ := h; exact ⟨a, c, h⟩
theorem CbsAt.len {w : World} {v : Value} {L : List (Int × Int)} (h : CbsAt w v L) : L.length ≤ 1099511627776 := by
  obtain ⟨_, _, _, _, h, _⟩ := h; exact h
theorem CbsAt.nil (w : World) : CbsAt w (.slice none 0 0) [] := ⟨none, 0, rfl, ⟨by simp, fun _ => rfl⟩, by simp, fun i h => by simp at h⟩
/-- The two cells of a cube. -/
theorem CbsAt.get {w : World} {a : Option Addr} {n c : Nat} {L : List (Int × Int)} (h : CbsAt w (.slice a n c) L) (i : Nat) (hi : i < L.length) :
    ∃ b o, a = some ⟨b, o, none⟩ ∧ w.cell? ⟨b, o + i * 2, none⟩ = some (.int .i64 (L.getD i default).1) ∧ w.cell? ⟨b, o + (i * 2 + 1), none⟩ = some (.int .i64 (L.getD i default).2) := by
  obtain ⟨a', c', h1, _, _, h5⟩ := h
  injection h1 with h1
  subst h1
  obtain ⟨b, o, h6, h7⟩ := h5 i hi
  have e : L.getD i default = L[i] := by simp [List.getD_eq_getElem?_getD, hi]
  rw [e]
  refine ⟨b, o, h6, ?_, ?_⟩
  · have := h7 0 (.int .i64 L[i].1) rfl
    simpa using this
  · have := h7 1 (.int .i64 L[i].2) rfl
    rw [← Nat.add_assoc]
    simpa using this
/-- The first cubes. -/
theorem CbsAt.take {w : World} {a : Option Addr} {n c : Nat} {L : List (Int × Int)} (h : CbsAt w (.slice a n c) L) (k : Nat) (hk : k ≤ L.length) : CbsAt w (.slice a k c) (L.take k) := by
  obtain ⟨a', c', h1, h2, h3, h5⟩ := h
  injection h1 with h1 h6 h7
  subst h1 h7
  have hl : (L.take k).length = k := by rw [List.length_take]; omega
  refine ⟨a, c, by rw [hl], ⟨by omega, h2.2⟩, by omega, fun i hi => ?_⟩
  obtain ⟨b, o, h8, h9⟩ := h5 i (by omega)
  exact ⟨b, o, h8, by rw [List.getElem_take]; exact h9⟩
/-- Cubes of the call's own. -/
def OwnCbs (w : World) (B : Nat) (v : Value) (L : List (Int × Int)) : Prop :=
  w.ownsRow B 55 2 v L.length (L.flatMap ccells) ∧ L.length ≤ 1099511627776
theorem OwnCbs.kept {w w' : World} {B : Nat} {v : Value} {L : List (Int × Int)} (h : OwnCbs w B v L) (hk : Kept w w') : OwnCbs w' B v L := ⟨own_kept h.1 hk, h.2⟩
theorem OwnCbs.mono {w : World} {B B' : Nat} {v : Value} {L : List (Int × Int)} (h : OwnCbs w B v L) (hb : B' ≤ B) : OwnCbs w B' v L := ⟨own_mono h.1 hb, h.2⟩
theorem OwnCbs.nil (w : World) (B : Nat) : OwnCbs w B (.slice none 0 0) [] := ⟨World.ownsRow_nil _ _ _ _, by simp⟩
theorem len_cc (L : List (Int × Int)) : (L.flatMap ccells).length = L.length * 2 := by
  induction L with
  | nil => rfl
  | cons c L ih => simp [ccells, ih]; omega
theorem cc_get (L : List (Int × Int)) : ∀ i (h : i < L.length) j, j < 2 → (L.flatMap ccells)[i * 2 + j]? = (ccells L[i])[j]? := by
  induction L with
  | nil => intro i h; simp at h
  | cons c L ih =>
    intro i h j hj
    rw [List.flatMap_cons]
    cases i with
    | zero => rw [List.getElem?_append_left (by simp [ccells]; omega)]; simp
    | succ i =>
      rw [List.getElem?_append_right (by simp [ccells]; omega), show (ccells c).length = 2 from rfl, show (i + 1) * 2 + j - 2 = i * 2 + j by omega]
      exact ih i (by simpa using h) j hj
theorem OwnCbs.at {w : World} {B : Nat} {v : Value} {L : List (Int × Int)} (h : OwnCbs w B v L) : CbsAt w v L := by
  obtain ⟨⟨h1, h2⟩, h3⟩ := h
  rcases h2 with ⟨rfl, h6⟩ | ⟨g, cap, cur, rfl, h6, h7, h8, h9, h10, h11⟩
  · have : L = [] := List.eq_nil_of_length_eq_zero h6
    subst this
    exact CbsAt.nil w
  · refine ⟨some ⟨g, 0, none⟩, cap, rfl, ⟨h8, fun h => by cases h⟩, h3, fun i hi => ⟨g, 0, rfl, fun j u hj => ?_⟩⟩
    have hj3 : j < 2 := by
      have := (List.getElem?_eq_some_iff.1 hj).1
      simpa [ccells] using this
    have e1 : (cur.toList.take (L.length * 2))[i * 2 + j]? = (L.flatMap ccells)[i * 2 + j]? := by rw [h11]
    rw [List.getElem?_take_of_lt (by omega), cc_get L i hi j hj3, hj] at e1
    simp only [World.cell?, h7, Nat.zero_add]
    simpa using e1
theorem info_cube : (Tryz.prog.info? 55).map (fun i => (i.zero, i.size, i.bytes)) = some (some (.agg #[.int .i64 0, .int .i64 0]), 2, 16) := by kernel_rfl
theorem cc_one (L : List (Int × Int)) : ∀ u ∈ L.flatMap ccells, u.oneCell' = true := fun u hu => by
  obtain ⟨c, _, h⟩ := List.mem_flatMap.1 hu
  simp [ccells] at h
  rcases h with rfl | rfl <;> rfl
/-- append of a whole slice of cubes to cubes of the call's own. -/
theorem app_cbs {ops : Array Oper} {rest : List Oper} {o : Oper} {a : Act} {Q : Exit → Act → World → Prop} {w : World} (hgd : o.guard = none) (s x : Operand)
    (ho : o.op = .call { callee := .builtin .append, args := #[s, x], argTypes := #[25, 25] }) (B : Nat) (v : Value) (L : List (Int × Int)) (hs : a.eval s = v) (hown : OwnCbs w B v L)
    (u : Value) (M : List (Int × Int)) (hx : a.eval x = u) (hu : CbsAt w u M) (hl : L.length + M.length ≤ 1099511627776) (hB : B ≤ w.heap.size)
    (h : ∀ v' w', OwnCbs w' B v' (L ++ M) → w.grownBy w' v.ownBlock → Below B w w' → wpList Tryz.prog ops Q rest (a.put o.dst v') w') : wpList Tryz.prog ops Q (o :: rest) a w := by
  obtain ⟨i0, hi0, hz0, hz1, hz2⟩ := info_parts info_cube
  obtain ⟨ad, c, rfl, ⟨hc, hcn⟩, hl2, h5⟩ := hu
  cases ad with
  | none =>
    have hy : M = [] := by
      cases M with
      | nil => rfl
      | cons y M => obtain ⟨b, o, h, _⟩ := h5 0 (by simp); cases h
    subst hy
    rw [hcn rfl] at hx
    refine wpList_append_own_none hgd s x 25 ho B 55 i0 2 Tryz.underlying25 hi0 v L.length _ hs hown.1 hx ?_
    exact h v w (by simpa using hown) (World.grownBy.refl _ _) (Below.refl _ _)
  | some ad =>
    refine wpList_append_own _ hgd s x 25 ho B 55 i0 _ 2 16 Tryz.underlying25 hi0 hz0 hz1 hz2 rfl (by decide) v L.length _ hs hown.1 ad M.length c (M.flatMap ccells) hx (len_cc M) ?_ (cc_one M) (by simp [maxLen]; omega) (by omega) hB ?_
    · intro j u hj
      have hj' : j < M.length * 2 := by
        rw [← len_cc]
        exact (List.getElem?_eq_some_iff.1 hj).1
      obtain ⟨b, o, h6, h7⟩ := h5 (j / 2) (by omega)
      cases h6
      have e := cc_get M (j / 2) (by omega) (j % 2) (by omega)
      rw [show j / 2 * 2 + j % 2 = j by omega, hj] at e
      have := h7 (j % 2) u e.symm
      rw [show ({ block := b, off := o } : Addr).add j = ⟨b, o + j, none⟩ by unfold Addr.add; split <;> simp_all]
      rw [show o + j = o + j / 2 * 2 + j % 2 by omega]
      exact this
    · intro v' w' h6 h7 _
      exact h v' w' ⟨by rw [List.flatMap_append, List.length_append]; exact h6, by simp; omega⟩ h7 (grown_below h7 hown.1 hB)
/-- append of one cube that lies in a block of its own. -/
theorem app_cb {ops : Array Oper} {rest : List Oper} {o : Oper} {a : Act} {Q : Exit → Act → World → Prop} {w : World} (hgd : o.guard = none) (s x : Operand)
    (ho : o.op = .call { callee := .builtin .append, args := #[s, x], argTypes := #[25, 25] }) (B : Nat) (v : Value) (L : List (Int × Int)) (hs : a.eval s = v) (hown : OwnCbs w B v L)
    (g : Nat) (c : Int × Int) (hx : a.eval x = .slice (some ⟨g, 0, none⟩) 1 1) (hu : w.rangeAt g 0 (ccells c)) (hl : L.length < 1099511627776) (hB : B ≤ w.heap.size)
    (h : ∀ v' w', OwnCbs w' B v' (L ++ [c]) → w.grownBy w' v.ownBlock → Below B w w' → wpList Tryz.prog ops Q rest (a.put o.dst v') w') : wpList Tryz.prog ops Q (o :: rest) a w :=
  app_cbs hgd s x ho B v L hs hown _ [c] hx ⟨_, 1, rfl, ⟨by simp, fun h => by cases h⟩, by simp, fun i hi => ⟨g, 0, rfl, by
    have : i = 0 := by simpa using hi
    subst this; simpa using hu⟩⟩ (by simp; omega) hB h
theorem range_two (w : World) (x0 x1 : Value) (e : TypeId) : (w.alloc (.cells #[x0, x1] e)).rangeAt w.heap.size 0 [x0, x1] := by
  intro j v hj
  match j, hj with
  | 0, hj => simp at hj; subst hj; simp
  | 1, hj => simp at hj; subst hj; simp
/-- A literal of one cube. -/
theorem own_cube (w : World) (B : Nat) (c : Int × Int) (hB : B ≤ w.heap.size) : OwnCbs (w.alloc (.cells #[.int .i64 c.1, .int .i64 c.2] 55)) B (.slice (some ⟨w.heap.size, 0, none⟩) 1 1) [c] :=
  ⟨⟨by simp [ccells], .inr ⟨w.heap.size, 1, #[.int .i64 c.1, .int .i64 c.2], rfl, hB, heap_alloc_new w _, Nat.le_refl _, by unfold maxLen; omega, by simp, by simp [ccells]⟩⟩, by simp⟩
/-- Cubes of the call's own are kept by a store into an older block. -/
theorem OwnCbs.older {w w' : World} {B g : Nat} {v : Value} {L : List (Int × Int)} (h : OwnCbs w B v L) (hg : g < B) (ho : OnlyAt g w w') : OwnCbs w' B v L := by
  obtain ⟨⟨h1, h2⟩, h3⟩ := h
  refine ⟨⟨h1, ?_⟩, h3⟩
  rcases h2 with h2 | ⟨p, cap, cur, h4, h5, h6, h7⟩
  · exact .inl h2
  · refine .inr ⟨p, cap, cur, h4, h5, ?_, h7⟩
    have hlt : p < w.heap.size := by
      rcases Nat.lt_or_ge p w.heap.size with h8 | h8
      · exact h8
      · simp [Array.getElem?_eq_none h8] at h6
    rw [ho.block p hlt (by omega)]
    exact h6
/-- append of one cube in a region that draws its order. -/
theorem step_cb {ops : Array Oper} {o : Oper} {a : Act} {K : Act → World → Prop} {Q : Exit → Act → World → Prop} {E : Prop} {w : World} (hgd : o.guard = none) (s x : Operand)
    (ho : o.op = .call { callee := .builtin .append, args := #[s, x], argTypes := #[25, 25] }) (B : Nat) (v : Value) (L : List (Int × Int)) (hs : a.eval s = v) (hown : OwnCbs w B v L)
    (g : Nat) (c : Int × Int) (hx : a.eval x = .slice (some ⟨g, 0, none⟩) 1 1) (hu : w.rangeAt g 0 (ccells c)) (hl : L.length < 1099511627776) (hB : B ≤ w.heap.size)
    (h : ∀ v' w', OwnCbs w' B v' (L ++ [c]) → Below B w w' → K (a.put o.dst v') w') : if Region.wanted o (yielded ops a.tmps) = true then Oper.wp Tryz.prog o a w K Q else E := by
  have hw : Region.wanted o (yielded ops a.tmps) = true := by simp [Region.wanted, hgd]
  rw [if_pos hw]
  obtain ⟨i0, hi0, hz0, hz1, hz2⟩ := info_parts info_cube
  refine wp_append_own _ s x 25 ho B 55 i0 _ 2 16 Tryz.underlying25 hi0 hz0 hz1 hz2 rfl (by decide) v L.length _ hs hown.1 ⟨g, 0, none⟩ 1 1 (ccells c) hx (by simp [ccells]) ?_ ?_ (by simp [maxLen]; omega) (by omega) hB ?_
  · intro j u hj
    have := hu j u hj
    rw [show ({ block := g, off := 0 } : Addr).add j = ⟨g, 0 + j, none⟩ by unfold Addr.add; split <;> simp_all]
    exact this
  · intro u hu; simp [ccells] at hu; rcases hu with rfl | rfl <;> rfl
  · intro v' w' h5 h6 _
    exact h v' w' ⟨by rw [List.flatMap_append, List.length_append]; simpa using h5, by simp; omega⟩ (grown_below h6 hown.1 hB)
end Go.Proofs.YtbkchheikkbebaaGreatDoor

/-
  Plain: lists of cubes that are given, weights by fractions.
-/
namespace Go.Proofs.YtbkchheikkbebaaGreatDoor
open Go.RowKit

/-- The number of the error of a cube, of a list of cubes. -/
def chkCb (c : Int × Int) : Nat := if (0 ≤ c.1 ∧ c.1 < 16777216) ∧ 0 ≤ c.2 ∧ c.2 < 16777216 then (if c.1.toNat &&& c.2.toNat ≠ 0 then 6 else 0) else 3
def chkCs : List (Int × Int) → Nat
  | [] => 0
  | c :: l => if chkCb c ≠ 0 then chkCb c else chkCs l
def natC (c : Int × Int) : Nat × Nat := (c.1.toNat, c.2.toNat)
/-- The cube i meets one before it. -/
def metC (L : List (Int × Int)) (i m : Nat) : Bool := (List.range m).any fun j => meetC (natC (L.getD i default)) (natC (L.getD j default))
def metT (L : List (Int × Int)) (m : Nat) : Bool := (List.range m).any fun i => metC L i i
def chkD (L : List (Int × Int)) : Nat := if 1024 < L.length then 4 else if chkCs L ≠ 0 then chkCs L else if metT L L.length = true then 21 else 0
theorem metC_succ (L : List (Int × Int)) (i m : Nat) : metC L i (m + 1) = (metC L i m || meetC (natC (L.getD i default)) (natC (L.getD m default))) := by
  unfold metC; rw [List.range_succ, List.any_append]; simp
theorem metT_succ (L : List (Int × Int)) (m : Nat) : metT L (m + 1) = (metT L m || metC L m m) := by
  unfold metT; rw [List.range_succ, List.any_append]; simp
theorem chkCb_zero {c : Int × Int} (h : chkCb c = 0) : CbOk (natC c) ∧ c = ofC (natC c) := by
  unfold chkCb at h
  split at h
  · rename_i h1
    split at h
    · cases h
    · rename_i h2
      refine ⟨⟨by show c.1.toNat < _; omega, by show c.2.toNat < _; omega, Classical.byContradiction h2⟩, ?_⟩
      obtain ⟨a, b⟩ := c
      show (a, b) = (((a.toNat : Nat) : Int), ((b.toNat : Nat) : Int))
      rw [Int.toNat_of_nonneg h1.1.1, Int.toNat_of_nonneg h1.2.1]
  · cases h
theorem chkCs_zero : ∀ {L : List (Int × Int)}, chkCs L = 0 → ∀ c ∈ L, chkCb c = 0 := by
  intro L
  induction L with
  | nil => intro _ c hc; cases hc
  | cons d L ih =>
    intro h c hc
    rw [chkCs] at h
    split at h
    · rename_i h1; exact absurd h h1
    · rename_i h1
      rcases List.mem_cons.1 hc with rfl | hc
      · exact Classical.byContradiction h1
      · exact ih h c hc
theorem chkCs_ok : ∀ {L : List (Int × Int)}, (∀ c ∈ L, chkCb c = 0) → chkCs L = 0 := by
  intro L
  induction L with
  | nil => intro _; rfl
  | cons d L ih =>
    intro h
    rw [chkCs, if_neg (by rw [h d List.mem_cons_self]; simp)]
    exact ih fun c hc => h c (List.mem_cons_of_mem _ hc)
theorem chkCs_app (a b : List (Int × Int)) (h : chkCs a = 0) : chkCs (a ++ b) = chkCs b := by
  induction a with
  | nil => rfl
  | cons d a ih =>
    have h1 := chkCs_zero h d List.mem_cons_self
    rw [List.cons_append, chkCs, if_neg (by rw [h1]; simp)]
    refine ih (chkCs_ok fun c hc => chkCs_zero h c (List.mem_cons_of_mem _ hc))
theorem natC_ofC (c : Nat × Nat) : natC (ofC c) = c := rfl
theorem chk_ofC {c : Nat × Nat} (h : CbOk c) : chkCb (ofC c) = 0 := by
  obtain ⟨h1, h2, h3⟩ := h
  unfold chkCb
  rw [if_pos (by show (0 ≤ (c.1 : Int) ∧ (c.1 : Int) < 16777216) ∧ 0 ≤ (c.2 : Int) ∧ (c.2 : Int) < 16777216; omega)]
  show (if c.1 &&& c.2 ≠ 0 then 6 else 0) = 0
  rw [if_neg (by rw [h3]; simp)]
theorem ofCs_getD {l : List (Nat × Nat)} {i : Nat} (h : i < l.length) : (ofCs l).getD i default = ofC l[i] := by
  simp [ofCs, List.getD_eq_getElem?_getD, h]
/-- The cubes of a family are accepted. -/
theorem cubes_chk {L : List Nat} {out : List (Nat × Nat)} (hb : ∀ b ∈ L, b < 16777216) (h : cubesK L = some out) : chkD (ofCs out) = 0 := by
  unfold chkD
  rw [if_neg (by rw [ofCs_len]; have := cubes_len h; omega)]
  have h0 : chkCs (ofCs out) = 0 := chkCs_ok fun c hc => by
    obtain ⟨d, hd, rfl⟩ := List.mem_map.1 hc
    exact chk_ofC (cubes_ok hb h d hd)
  rw [h0, if_neg (by simp), if_neg]
  unfold metT
  rw [List.any_eq_true]
  rintro ⟨i, hi, h1⟩
  unfold metC at h1
  obtain ⟨j, hj, h2⟩ := List.any_eq_true.1 h1
  rw [List.mem_range, ofCs_len] at hi
  rw [List.mem_range] at hj
  rw [ofCs_getD hi, ofCs_getD (by omega), natC_ofC, natC_ofC, cubes_apart hb h i j hj hi] at h2
  cases h2
/-- The probabilities of the events. -/
def qOf (ps : List Rw) (i : Nat) : Rat := ratOf (ps.getD i default)
def wQs (ps : List Rw) (c : Nat × Nat) (n : Nat) : Rat := wQ (qOf ps) c n
theorem cnt_two {l : List (Nat × Nat)} {s : Nat} : 2 ≤ cnt l s → ∃ i j : Nat, ∃ (hij : j < i) (hi : i < l.length), inC (l[i]'hi) s = true ∧ inC (l[j]'(by omega)) s = true := by
  induction l with
  | nil => intro h; rw [cnt_nil] at h; omega
  | cons c l ih =>
    intro h
    rw [cnt_cons] at h
    by_cases hc : inC c s = true
    · rw [if_pos hc] at h
      have h1 : 1 ≤ cnt l s := by omega
      unfold cnt at h1
      obtain ⟨d, hd⟩ := List.exists_mem_of_length_pos (show 0 < (l.filter fun c => inC c s).length by omega)
      obtain ⟨hd1, hd2⟩ := List.mem_filter.1 hd
      obtain ⟨i, hi, rfl⟩ := List.mem_iff_getElem.1 hd1
      exact ⟨i + 1, 0, by omega, by simpa using hi, by simpa using hd2, by simpa using hc⟩
    · rw [if_neg hc, Nat.zero_add] at h
      obtain ⟨i, j, hij, hi, h1, h2⟩ := ih h
      exact ⟨i + 1, j + 1, by omega, by simpa using hi, by simpa using h1, by simpa using h2⟩
/-- A state lies in one accepted cube at most. -/
theorem chk_cnt {L : List (Int × Int)} (h : chkD L = 0) (s : Nat) : cnt (L.map natC) s ≤ 1 ∧ ∀ c ∈ L.map natC, CbOk c := by
  unfold chkD at h
  split at h
  · cases h
  · split at h
    · rename_i h1; exact absurd h h1
    · rename_i h1
      split at h
      · cases h
      · rename_i h2
        have h0 : chkCs L = 0 := Classical.byContradiction h1
        have hok : ∀ c ∈ L.map natC, CbOk c := fun c hc => by
          obtain ⟨d, hd, rfl⟩ := List.mem_map.1 hc
          exact (chkCb_zero (chkCs_zero h0 d hd)).1
        refine ⟨Nat.le_of_lt_succ (Nat.lt_of_not_le fun h3 => h2 ?_), hok⟩
        obtain ⟨i, j, hij, hi, h4, h5⟩ := cnt_two h3
        rw [List.length_map] at hi
        unfold metT
        refine List.any_eq_true.2 ⟨i, List.mem_range.2 hi, ?_⟩
        unfold metC
        refine List.any_eq_true.2 ⟨j, List.mem_range.2 hij, ?_⟩
        rw [List.getElem_map] at h4 h5
        have e1 : L.getD i default = L[i] := by simp [List.getD_eq_getElem?_getD, hi]
        have e2 : L.getD j default = L[j]'(by omega) := by simp [List.getD_eq_getElem?_getD, show j < L.length by omega]
        rw [e1, e2]
        have g4 := inC_iff.1 h4
        have g5 := inC_iff.1 h5
        unfold meetC
        rw [Bool.and_eq_true, and_zero_iff, and_zero_iff]
        refine ⟨fun k hk => ?_, fun k hk => ?_⟩
        · cases hx : (natC (L[j]'(by omega))).2.testBit k with
          | false => rfl
          | true => have := g4.1 k hk; rw [g5.2 k hx] at this; cases this
        · cases hx : (natC (L[j]'(by omega))).1.testBit k with
          | false => rfl
          | true => have := g5.1 k hx; rw [g4.2 k hk] at this; cases this
theorem wQ_short {ps : List Rw} {c : Nat × Nat} (hs : ∀ r ∈ ps, r.Short 3) (hok : ∀ r ∈ ps, r.Ok) : ∀ n, n ≤ ps.length → (canR (wQs ps c n)).Short (12 * n + 1) := by
  intro n
  induction n with
  | zero => intro _; exact one_short
  | succ n ih =>
    intro hn
    have ih := ih (by omega)
    have hx : ps.getD n default = ps[n] := by simp [List.getD_eq_getElem?_getD, show n < ps.length by omega]
    have hr := hok _ (List.getElem_mem (show n < ps.length by omega))
    have hr3 := hs _ (List.getElem_mem (show n < ps.length by omega))
    have e : wQs ps c (n + 1) = (wQs ps c n * if c.1.testBit n = true then qOf ps n else 1) * if c.2.testBit n = true then 1 - qOf ps n else 1 := rfl
    have eq : qOf ps n = ratOf ps[n] := by unfold qOf; rw [hx]
    have h1 : (canR (wQs ps c n * if c.1.testBit n = true then qOf ps n else 1)).Short (12 * n + 4) := by
      split
      · have h := short_mul (canR_ok (wQs ps c n)) hr ih hr3 (by omega) (by omega)
        rw [ratOf_can, ← eq] at h
        exact ⟨Nat.le_trans h.1 (by omega), Nat.le_trans h.2 (by omega)⟩
      · rw [Rat.mul_one]
        exact ⟨Nat.le_trans ih.1 (by omega), Nat.le_trans ih.2 (by omega)⟩
    have h2 : (canR (1 - qOf ps n)).Short 5 := by
      have h3 := short_neg hr hr3 (by omega)
      have h := short_add (canR_ok ((1 : Int) : Rat)) (canR_ok (- ratOf ps[n])) one_short h3 (by omega) (by omega)
      rw [ratOf_can, ratOf_can, ← eq, ← Rat.sub_eq_add_neg] at h
      exact h
    rw [e]
    generalize (wQs ps c n * if c.1.testBit n = true then qOf ps n else 1) = X at *
    split
    · have h := short_mul (canR_ok X) (canR_ok (1 - qOf ps n)) h1 h2 (by omega) (by omega)
      rw [ratOf_can, ratOf_can] at h
      exact ⟨Nat.le_trans h.1 (by omega), Nat.le_trans h.2 (by omega)⟩
    · rw [Rat.mul_one]
      exact ⟨Nat.le_trans h1.1 (by omega), Nat.le_trans h1.2 (by omega)⟩
def sumWs (ps : List Rw) (l : List (Nat × Nat)) (k : Nat) : Rat := sumW (qOf ps) ps.length (l.take k)
theorem sumW_snoc (q : Nat → Rat) (n : Nat) (l : List (Nat × Nat)) (c : Nat × Nat) : sumW q n (l ++ [c]) = sumW q n l + wQ q c n := by
  unfold sumW; rw [List.foldl_append]; rfl
theorem sumWs_succ {ps : List Rw} {l : List (Nat × Nat)} {k : Nat} (h : k < l.length) : sumWs ps l (k + 1) = sumWs ps l k + wQs ps l[k] ps.length := by
  unfold sumWs wQs
  rw [List.take_succ_eq_append_getElem h, sumW_snoc]
theorem sumWs_short {ps : List Rw} {l : List (Nat × Nat)} (hs : ∀ r ∈ ps, r.Short 3) (hok : ∀ r ∈ ps, r.Ok) (hp : ps.length ≤ 30) : ∀ k, k ≤ l.length → (canR (sumWs ps l k)).Short (362 * k + 1) := by
  intro k
  induction k with
  | zero => intro _; exact ⟨Nat.zero_le _, Nat.zero_le _⟩
  | succ k ih =>
    intro hk
    have ih := ih (by omega)
    have h1 := wQ_short (c := l[k]) hs hok ps.length (Nat.le_refl _)
    have h := short_add (canR_ok (sumWs ps l k)) (canR_ok (wQs ps l[k] ps.length)) ih h1 (by omega) (by omega)
    rw [ratOf_can, ratOf_can] at h
    rw [sumWs_succ (by omega)]
    exact ⟨Nat.le_trans h.1 (by omega), Nat.le_trans h.2 (by omega)⟩
end Go.Proofs.YtbkchheikkbebaaGreatDoor

/-
  Walks: cube.Check, disjoint.Check and the reference's: lists of disjoint cubes.
-/
namespace Go.Proofs.YtbkchheikkbebaaGreatDoor
open Go.RowKit

theorem chkCb_nat (Y N : Nat) (h1 : Y < 16777216) (h2 : N < 16777216) : chkCb ((Y : Int), (N : Int)) = if Y &&& N = 0 then 0 else 6 := by
  unfold chkCb
  rw [if_pos ⟨⟨by simp, by simpa using (by omega : (Y : Int) < 16777216)⟩, by simp, by simpa using (by omega : (N : Int) < 16777216)⟩]
  simp only [Int.toNat_natCast]
  by_cases h : Y &&& N = 0
  · rw [if_pos h, if_neg (by simpa using h)]
  · rw [if_neg h, if_pos h]
set_option maxRecDepth 100000 in
theorem cubchk_any (y n : Int) (w : World) : Calls Tryz.prog 93 #[.agg #[.int .i64 y, .int .i64 n]] w fun e w' => e = .returned (errV (chkCb (y, n))) ∧ Kept w w' := by
  by_cases h1 : 0 ≤ y
  · by_cases h2 : y < 16777216
    · by_cases h3 : 0 ≤ n
      · by_cases h4 : n < 16777216
        · obtain ⟨Y, rfl⟩ := Int.eq_ofNat_of_zero_le h1
          obtain ⟨N, rfl⟩ := Int.eq_ofNat_of_zero_le h3
          rw [chkCb_nat Y N (by omega) (by omega)]
          have p := and_i64 Y N (by omega) (by omega)
          obtain ⟨z, hz⟩ : ∃ z, z = Y &&& N := ⟨_, rfl⟩
          rw [← hz] at p ⊢
          have h2' : (Y : Int) ≤ 16777215 := by omega
          have h4' : (N : Int) ≤ 16777215 := by omega
          clear hz
          by_cases h0 : z = 0
          · subst h0
            rw [if_pos (Eq.refl 0)]
            go_enter Tryz.func93, Tryz.ntmps93
            go_wp2
            go_ret
            exact ⟨rfl, (Kept.refl _).alloc _⟩
          · have hz0 : ¬ (z : Int) = 0 := by omega
            have hz1 : ((z : Int) != 0) = true := by simp; omega
            rw [if_neg h0]
            go_enter Tryz.func93, Tryz.ntmps93
            go_wp2
            go_ret
            exact ⟨by rfl, (Kept.refl _).alloc _⟩
        · have hb : chkCb (y, n) = 3 := by unfold chkCb; rw [if_neg (by simp only []; omega)]
          have h4' : ¬ n ≤ 16777215 := by omega
          have h2' : y ≤ 16777215 := by omega
          rw [hb]
          go_enter Tryz.func93, Tryz.ntmps93
          go_wp2
          go_ret
          exact ⟨by rfl, (Kept.refl _).alloc _⟩
      · have hb : chkCb (y, n) = 3 := by unfold chkCb; rw [if_neg (by simp only []; omega)]
        have h2' : y ≤ 16777215 := by omega
        rw [hb]
        go_enter Tryz.func93, Tryz.ntmps93
        go_wp2
        go_ret
        exact ⟨by rfl, (Kept.refl _).alloc _⟩
    · have hb : chkCb (y, n) = 3 := by unfold chkCb; rw [if_neg (by simp only []; omega)]
      have h2' : ¬ y ≤ 16777215 := by omega
      rw [hb]
      go_enter Tryz.func93, Tryz.ntmps93
      go_wp2
      go_ret
      exact ⟨by rfl, (Kept.refl _).alloc _⟩
  · have hb : chkCb (y, n) = 3 := by unfold chkCb; rw [if_neg (by simp only []; omega)]
    rw [hb]
    go_enter Tryz.func93, Tryz.ntmps93
    go_wp2
    go_ret
    exact ⟨by rfl, (Kept.refl _).alloc _⟩
set_option maxRecDepth 100000 in
theorem refcubchk_any (y n : Int) (w : World) : Calls Tryz.prog 178 #[.agg #[.int .i64 y, .int .i64 n]] w fun e w' => e = .returned (.int .i64 (chkCb (y, n) : Nat)) ∧ Kept w w' := by
  by_cases h1 : 0 ≤ y
  · by_cases h2 : y < 16777216
    · by_cases h3 : 0 ≤ n
      · by_cases h4 : n < 16777216
        · obtain ⟨Y, rfl⟩ := Int.eq_ofNat_of_zero_le h1
          obtain ⟨N, rfl⟩ := Int.eq_ofNat_of_zero_le h3
          rw [chkCb_nat Y N (by omega) (by omega)]
          have p := and_i64 Y N (by omega) (by omega)
          obtain ⟨z, hz⟩ : ∃ z, z = Y &&& N := ⟨_, rfl⟩
          rw [← hz] at p ⊢
          have h2' : (Y : Int) ≤ 16777215 := by omega
          have h4' : (N : Int) ≤ 16777215 := by omega
          clear hz
          by_cases h0 : z = 0
          · subst h0
            rw [if_pos (Eq.refl 0)]
            go_enter Tryz.func178, Tryz.ntmps178
            go_wp2
            go_ret
            exact ⟨rfl, (Kept.refl _).alloc _⟩
          · have hz0 : ¬ (z : Int) = 0 := by omega
            have hz1 : ((z : Int) != 0) = true := by simp; omega
            rw [if_neg h0]
            go_enter Tryz.func178, Tryz.ntmps178
            go_wp2
            go_ret
            exact ⟨by rfl, (Kept.refl _).alloc _⟩
        · have hb : chkCb (y, n) = 3 := by unfold chkCb; rw [if_neg (by simp only []; omega)]
          have h4' : ¬ n ≤ 16777215 := by omega
          have h2' : y ≤ 16777215 := by omega
          rw [hb]
          go_enter Tryz.func178, Tryz.ntmps178
          go_wp2
          go_ret
          exact ⟨by rfl, (Kept.refl _).alloc _⟩
      · have hb : chkCb (y, n) = 3 := by unfold chkCb; rw [if_neg (by simp only []; omega)]
        have h2' : y ≤ 16777215 := by omega
        rw [hb]
        go_enter Tryz.func178, Tryz.ntmps178
        go_wp2
        go_ret
        exact ⟨by rfl, (Kept.refl _).alloc _⟩
    · have hb : chkCb (y, n) = 3 := by unfold chkCb; rw [if_neg (by simp only []; omega)]
      have h2' : ¬ y ≤ 16777215 := by omega
      rw [hb]
      go_enter Tryz.func178, Tryz.ntmps178
      go_wp2
      go_ret
      exact ⟨by rfl, (Kept.refl _).alloc _⟩
  · have hb : chkCb (y, n) = 3 := by unfold chkCb; rw [if_neg (by simp only []; omega)]
    rw [hb]
    go_enter Tryz.func178, Tryz.ntmps178
    go_wp2
    go_ret
    exact ⟨by rfl, (Kept.refl _).alloc _⟩
theorem chkCs_at {L : List (Int × Int)} {k : Nat} (hk : k < L.length) (h : ∀ c ∈ L.take k, chkCb c = 0) (hq : chkCb (L.getD k default) ≠ 0) : chkCs L = chkCb (L.getD k default) := by
  have e : L.getD k default = L[k] := by simp [List.getD_eq_getElem?_getD, hk]
  rw [e] at hq ⊢
  have h1 : L = L.take k ++ L[k] :: L.drop (k + 1) := by rw [← List.drop_eq_getElem_cons hk, List.take_append_drop]
  conv => lhs; rw [h1]
  rw [chkCs_app _ _ (chkCs_ok h), chkCs, if_pos hq]
set_option maxRecDepth 100000 in
set_option maxHeartbeats 8000000 in
theorem dcheck_any (v : Value) (L : List (Int × Int)) (w : World) (hv : CbsAt w v L) : Calls Tryz.prog 30 #[v] w fun e w' => e = .returned (errV (chkD L)) ∧ Kept w w' := by
  have HV := Lib.hid hv
  obtain ⟨a, c, rfl⟩ := hv.shape
  have hl := hv.len
  obtain ⟨n, hn⟩ : ∃ n, n = L.length := ⟨_, rfl⟩
  rw [← hn] at HV hl ⊢
  obtain ⟨q, hq⟩ : ∃ q, q = chkD L := ⟨_, rfl⟩
  rw [← hq]
  have HQ : Hid (q = if 1024 < n then 4 else if chkCs L ≠ 0 then chkCs L else if metT L n = true then 21 else 0) := Lib.hid (by rw [hq, hn]; rfl)
  have HN := Lib.hid hn
  have HCC : Hid (∀ c : Int × Int, ∀ W, Calls Tryz.prog 93 #[.agg #[.int .i64 c.1, .int .i64 c.2]] W fun e w' => e = .returned (errV (chkCb c)) ∧ Kept W w') := Lib.hid fun c W => cubchk_any c.1 c.2 W
  have hcn : ¬ (c : Int) < (n : Int) := by
    obtain ⟨_, _, he, ⟨h2, _⟩, _⟩ := hv
    injection he with _ h3 h4
    omega
  have HCN : Hid (n ≤ c) := Lib.hid (by omega)
  clear hv hq hn hcn
  by_cases h9 : 1024 < n
  · have h9' : (1024 : Int) < (n : Int) := by omega
    have hq4 : q = 4 := by have h := HQ.out; rw [if_pos h9] at h; exact h
    subst hq4
    go_enter Tryz.func30, Tryz.ntmps30
    go_wp2
    go_ret
    exact ⟨rfl, Kept.refl _⟩
  · have h9' : ¬ (1024 : Int) < (n : Int) := by omega
    have HQ2 : Hid (q = if chkCs L ≠ 0 then chkCs L else if metT L n = true then 21 else 0) := Lib.hid (by have h := HQ.out; rw [if_neg h9] at h; exact h)
    go_enter Tryz.func30, Tryz.ntmps30
    go_wp2_with fail
    go_loopg [16] n (fun kx s16 wr => ∃ k : Nat, k ≤ n ∧ s16 = .int .i64 k ∧ n - k ≤ kx ∧ Hid (∀ c ∈ L.take k, chkCb c = 0) ∧ Hid (Kept w wr))
    case atStart => exact ⟨0, Nat.zero_le _, rfl, by omega, Lib.hid (by simp), Lib.hid (Kept.refl _)⟩
    case round =>
      obtain ⟨k, hk, rfl, hkx, HF, HK⟩ := hrel
      by_cases hlt : k < n
      · have hkl : k < L.length := by have := HN.out; omega
        have hki : (k : Int) < (n : Int) := by omega
        obtain ⟨b, o, rfl, g1, g2⟩ := HV.out.get k hkl
        have x1 := HK.out.cell g1
        have x2 := HK.out.cell g2
        rw [← Nat.add_assoc] at x2
        obtain ⟨d, hd⟩ : ∃ d, d = L.getD k default := ⟨_, rfl⟩
        rw [← hd] at x1 x2
        have HD := Lib.hid hd
        have HCD := Lib.hid (HCC.out d)
        obtain ⟨z, hz⟩ : ∃ z, z = chkCb d := ⟨_, rfl⟩
        have HZ := Lib.hid hz
        rw [← hz] at HCD
        clear g1 g2 hd hz
        by_cases hz0 : z = 0
        · subst hz0
          rw [errV_zero] at HCD
          obtain ⟨W1, rfl⟩ : ∃ W1 : World, W1 = wr := ⟨_, rfl⟩
          go_wp2_with (go_at_call 93; refine (HCD.out _).mono ?_; rintro e w2 ⟨rfl, hk2⟩; have HK2 := Lib.hid (((Kept.refl W1).alloc _).trans hk2); clear hk2)
          go_roundg (n - (k + 1))
          case measure => omega
          case rel =>
            refine ⟨k + 1, by omega, by go_num, Nat.le_refl _, Lib.hid fun c hc => ?_, Lib.hid (HK.out.trans HK2.out)⟩
            rw [List.take_succ_eq_append_getElem hkl] at hc
            rcases List.mem_append.1 hc with hc | hc
            · exact HF.out c hc
            · rw [List.mem_singleton] at hc
              have e : L.getD k default = L[k] := by simp [List.getD_eq_getElem?_getD, hkl]
              rw [hc, ← e, ← HD.out, ← HZ.out]
        · rw [errV_pos hz0] at HCD
          have HR : Hid (q = z) := Lib.hid (by
            have h := HQ2.out
            have e := chkCs_at hkl HF.out (by rw [← HD.out, ← HZ.out]; exact hz0)
            rw [← HD.out, ← HZ.out] at e
            rw [e, if_pos hz0] at h
            exact h)
          obtain ⟨W1, rfl⟩ : ∃ W1 : World, W1 = wr := ⟨_, rfl⟩
          go_wp2_with (go_at_call 93; refine (HCD.out _).mono ?_; rintro e w2 ⟨rfl, hk2⟩; have HK2 := Lib.hid (((Kept.refl W1).alloc _).trans hk2); clear hk2)
          go_ret
          exact ⟨by rw [HR.out, errV_pos hz0]; rfl, HK.out.trans HK2.out⟩
      · have hki : ¬ (k : Int) < (n : Int) := by omega
        have HA : Hid (∀ i, i < n → ∃ Y N : Nat, L.getD i default = ((Y : Int), (N : Int)) ∧ Y < 16777216 ∧ N < 16777216) := Lib.hid fun i hi => by
          have hil : i < L.length := by have := HN.out; omega
          have e : L.getD i default = L[i] := by simp [List.getD_eq_getElem?_getD, hil]
          have h0 := HF.out L[i] (by rw [List.take_of_length_le (by have := HN.out; omega)]; exact List.getElem_mem hil)
          obtain ⟨⟨h1, h2, _⟩, h4⟩ := chkCb_zero h0
          exact ⟨_, _, by rw [e]; exact h4, h1, h2⟩
        have HQ3 : Hid (q = if metT L n = true then 21 else 0) := Lib.hid (by
          have h := HQ2.out
          rw [chkCs_ok (L := L) (fun c hc => HF.out c (by rw [List.take_of_length_le (by have := HN.out; omega)]; exact hc)), if_neg (by simp)] at h
          exact h)
        go_wp2_with fail
        obtain ⟨w2, rfl⟩ : ∃ w2 : World, w2 = wr := ⟨_, rfl⟩
        go_loopg [28] n (fun ix s28 wi => ∃ i : Nat, i ≤ n ∧ s28 = .int .i64 i ∧ n - i ≤ ix ∧ Hid (metT L i = false) ∧ Hid (Kept w wi))
        case atStart => exact ⟨0, Nat.zero_le _, rfl, by omega, Lib.hid rfl, HK⟩
        case round =>
          obtain ⟨i, hi, rfl, hix, HM, HKI⟩ := hrel
          by_cases hil : i < n
          · have hii : (i : Int) < (n : Int) := by omega
            have hilen : i < L.length := by have := HN.out; omega
            obtain ⟨Y, N, e1, hY, hN⟩ := HA.out i hil
            obtain ⟨b, o, rfl, g1, g2⟩ := HV.out.get i hilen
            rw [e1] at g1 g2
            have x1 := HKI.out.cell g1
            have x2 := HKI.out.cell g2
            rw [← Nat.add_assoc] at x2
            have HE := Lib.hid e1
            have hic : ¬ (c : Int) < (i : Int) := by have := HCN.out; omega
            have hic2 : (i : Int) ≤ (c : Int) := by have := HCN.out; omega
            have hi0 : ¬ (i : Int) < 0 := by omega
            clear g1 g2 e1
            go_wp2_with fail
            obtain ⟨wo, rfl⟩ : ∃ wo : World, wo = wr := ⟨_, rfl⟩
            obtain ⟨w5, hw5⟩ : ∃ w5, w5 = wo.alloc (.cells #[.int .i64 Y, .int .i64 N] 55) := ⟨_, rfl⟩
            have hr5 := RowAt.made wo #[.int .i64 (Y : Int), .int .i64 (N : Int)] 55
            have HK5 : Hid (Kept wo w5) := Lib.hid (by rw [hw5]; exact (Kept.refl wo).alloc _)
            rw [← hw5] at hr5 ⊢
            have HR5 := Lib.hid hr5
            clear hw5 hr5
            go_loopg [37] i (fun jx s37 W => ∃ j : Nat, j ≤ i ∧ s37 = .int .i64 j ∧ i - j ≤ jx ∧ Hid (metC L i j = false) ∧ Hid (Kept w5 W))
            case atStart => exact ⟨0, Nat.zero_le _, rfl, by omega, Lib.hid rfl, Lib.hid (Kept.refl _)⟩
            case round =>
              obtain ⟨j, hj, rfl, hjx, HMJ, HKJ⟩ := hrel
              by_cases hjl : j < i
              · have hji : (j : Int) < (i : Int) := by omega
                have hjlen : j < L.length := by omega
                obtain ⟨Y2, N2, f1, hY2, hN2⟩ := HA.out j (by omega)
                obtain ⟨b', o', he', k1, k2⟩ := HV.out.get j hjlen
                cases he'
                rw [f1] at k1 k2
                have HKK := Lib.hid (HKI.out.trans (HK5.out.trans HKJ.out))
                have z1 := HKK.out.cell k1
                have z2 := HKK.out.cell k2
                rw [← Nat.add_assoc] at z2
                have y1 := (HR5.out.kept HKJ.out).cell (i := 0) (by simp)
                have y2 := (HR5.out.kept HKJ.out).cell (i := 1) (by simp)
                simp only [List.getElem_cons_succ, List.getElem_cons_zero] at y1 y2
                have p1 := and_i64 Y N2 (by omega) (by omega)
                have p2 := and_i64 N Y2 (by omega) (by omega)
                have HST : Hid (metC L i (j + 1) = ((Y &&& N2 == 0) && (N &&& Y2 == 0))) := Lib.hid (by
                  rw [metC_succ, HMJ.out, HE.out, f1]; rfl)
                have hlt5 := (HR5.out.kept HKJ.out).lt
                obtain ⟨t1, ht1⟩ : ∃ t1, t1 = Y &&& N2 := ⟨_, rfl⟩
                obtain ⟨t2, ht2⟩ : ∃ t2, t2 = N &&& Y2 := ⟨_, rfl⟩
                rw [← ht1] at p1 HST
                rw [← ht2] at p2 HST
                clear k1 k2 f1 ht1 ht2
                obtain ⟨W1, rfl⟩ : ∃ W1 : World, W1 = wr := ⟨_, rfl⟩
                by_cases c1 : t1 = 0
                · subst c1
                  by_cases c2 : t2 = 0
                  · subst c2
                    have HR : Hid (q = 21) := Lib.hid (by
                      have h := HQ3.out
                      rw [if_pos] at h
                      · exact h
                      · unfold metT
                        rw [List.any_eq_true]
                        refine ⟨i, by simpa using hil, ?_⟩
                        have h2 : metC L i (j + 1) = true := by rw [HST.out]; rfl
                        unfold metC at h2 ⊢
                        obtain ⟨m, hm, h3⟩ := List.any_eq_true.1 h2
                        exact List.any_eq_true.2 ⟨m, by simp at hm ⊢; omega, h3⟩)
                    go_wp2
                    go_ret
                    exact ⟨by rw [HR.out]; rfl, HKK.out.alloc _⟩
                  · have c2' : ¬ (t2 : Int) = 0 := by omega
                    have c2'' : ((t2 : Int) == 0) = false := by simpa using c2'
                    have HST2 : Hid (metC L i (j + 1) = false) := Lib.hid (by rw [HST.out]; simp [c2])
                    go_wp2
                    go_roundg (i - (j + 1))
                    case measure => omega
                    case rel => exact ⟨j + 1, by omega, by go_num, Nat.le_refl _, HST2, Lib.hid (HKJ.out.alloc _)⟩
                · have c1' : ¬ (t1 : Int) = 0 := by omega
                  have c1'' : ((t1 : Int) == 0) = false := by simpa using c1'
                  have HST2 : Hid (metC L i (j + 1) = false) := Lib.hid (by rw [HST.out]; simp [c1])
                  go_wp2
                  go_roundg (i - (j + 1))
                  case measure => omega
                  case rel => exact ⟨j + 1, by omega, by go_num, Nat.le_refl _, HST2, Lib.hid (HKJ.out.alloc _)⟩
              · have hji : ¬ (j : Int) < (i : Int) := by omega
                have HMI : Hid (metT L (i + 1) = false) := Lib.hid (by
                  have hje : j = i := by omega
                  rw [hje] at HMJ
                  rw [metT_succ, HM.out, HMJ.out]; rfl)
                go_wp2
                go_roundg (n - (i + 1))
                case measure => omega
                case rel => exact ⟨i + 1, by omega, by go_num, Nat.le_refl _, HMI, Lib.hid (HKI.out.trans (HK5.out.trans HKJ.out))⟩
          · have hii : ¬ (i : Int) < (n : Int) := by omega
            have HR : Hid (q = 0) := Lib.hid (by
              have hie : i = n := by omega
              have h := HQ3.out
              rw [← hie, HM.out, if_neg (by simp)] at h
              exact h)
            go_wp2
            go_ret
            exact ⟨by rw [HR.out]; rfl, HKI.out⟩
end Go.Proofs.YtbkchheikkbebaaGreatDoor

/-
  Walks: the weight of a cube, of disjoint and of the reference. Printed by gen_I9.py.
-/
namespace Go.Proofs.YtbkchheikkbebaaGreatDoor
open Go.RowKit

theorem qOf_short {ps : List Rw} (hs : ∀ r ∈ ps, r.Short 3) {k : Nat} (hk : k < ps.length) : (ps.getD k default).Short 3 := by
  have e : ps.getD k default = ps[k] := by simp [List.getD_eq_getElem?_getD, hk]
  rw [e]; exact hs _ (List.getElem_mem hk)
theorem qOf_ok {ps : List Rw} (hs : ∀ r ∈ ps, r.Ok) {k : Nat} (hk : k < ps.length) : (ps.getD k default).Ok := by
  have e : ps.getD k default = ps[k] := by simp [List.getD_eq_getElem?_getD, hk]
  rw [e]; exact hs _ (List.getElem_mem hk)
theorem ratOf_one : ratOf (canR ((1 : Int) : Rat)) = 1 := by rw [ratOf_can]; rfl
theorem not_short {ps : List Rw} (hs : ∀ r ∈ ps, r.Short 3) (hok : ∀ r ∈ ps, r.Ok) {k : Nat} (hk : k < ps.length) : (canR (1 - qOf ps k)).Short 6 := by
  have h1 := short_neg (qOf_ok hok hk) (qOf_short hs hk) (by omega)
  have h := short_add (canR_ok ((1 : Int) : Rat)) (canR_ok (- ratOf (ps.getD k default))) one_short h1 (by omega) (by omega)
  rw [ratOf_one, ratOf_can, ← Rat.sub_eq_add_neg] at h
  exact ⟨Nat.le_trans h.1 (by omega), Nat.le_trans h.2 (by omega)⟩
set_option maxRecDepth 100000 in
set_option maxHeartbeats 16000000 in
theorem dweight_any (y n : Nat) (v : Value) (ps : List Rw) (w : World) (hy : y < 16777216) (hn : n < 16777216) (hv : RatsAt w v ps) (hp3 : ∀ r ∈ ps, r.Short 3) (hp30 : ps.length ≤ 30) :
    Calls Tryz.prog 168 #[.agg #[.int .i64 y, .int .i64 n], v] w fun e w' => (∃ v', e = .returned v' ∧ RatAt w' v' (canR (wQs ps (y, n) ps.length))) ∧ Kept w w' := by
  have HOF : Hid (∀ W, Calls Tryz.prog 55 #[.int .i64 1] W fun e w' => (∃ v', e = .returned v' ∧ RatAt w' v' (canR ((1 : Int) : Rat))) ∧ Kept W w') := Lib.hid fun W => rof_any 1 W (by omega) (by omega)
  have HHY := Lib.hid (fun (i : Nat) W => hasS_any y i hy W)
  have HHN := Lib.hid (fun (i : Nat) W => hasS_any n i hn W)
  have HSH := Lib.hid (fun k hk => wQ_short (c := (y, n)) hp3 hv.ok k hk)
  have HP3 := Lib.hid hp3
  have HOK := Lib.hid hv.ok
  have HV := Lib.hid hv
  obtain ⟨a, c, rfl⟩ := hv.shape
  obtain ⟨m, hm⟩ : ∃ m, m = ps.length := ⟨_, rfl⟩
  rw [← hm] at HV hp30 ⊢
  have HN := Lib.hid hm
  obtain ⟨R, hR⟩ : ∃ R, R = canR (wQs ps (y, n) m) := ⟨_, rfl⟩
  rw [← hR]
  have HRR := Lib.hid hR
  obtain ⟨w2, hw2⟩ : ∃ w2, w2 = (w.alloc (.cells #[.int .i64 y, .int .i64 n] 55)).alloc (.cells #[.bool false, .slice none 0 0, .slice none 0 0] 39) := ⟨_, rfl⟩
  have hbx := (RowAt.made w #[.int .i64 (y : Int), .int .i64 (n : Int)] 55).kept ((Kept.refl _).alloc (.cells #[.bool false, .slice none 0 0, .slice none 0 0] 39))
  have HMD := Lib.hid (res_made w (.cells #[.int .i64 y, .int .i64 n] 55))
  rw [← hw2] at hbx HMD
  have HW2 := Lib.hid hw2
  have b0 := hbx.cell (i := 0) (by simp)
  have b1 := hbx.cell (i := 1) (by simp)
  simp only [List.getElem_cons_succ, List.getElem_cons_zero] at b0 b1
  have HBB := Lib.hid (And.intro b0 b1)
  clear hm hv hp3 hy hn hw2 hbx hR b0 b1
  go_enter Tryz.func168, Tryz.ntmps168
  go_wp2_with fail
  rw [← HW2.out]
  refine (HOF.out _).mono ?_
  rintro e w3 ⟨⟨v3, rfl, hv3⟩, hk3⟩
  have HR3 := Lib.hid (HMD.out.1.kept hk3)
  have HF3 := Lib.hid (HMD.out.2.1.kept hk3)
  have HK3 := Lib.hid (HMD.out.2.2.trans hk3)
  have HC3 := Lib.hid (And.intro (hk3.cell HBB.out.1) (hk3.cell HBB.out.2))
  obtain ⟨u1, u2, rfl, h1, h2⟩ := hv3
  obtain ⟨a1, c1, rfl⟩ := h1.shape
  obtain ⟨a2, c2, rfl⟩ := h2.shape
  have HC : Hid (RatCell (w3.alloc (.cells #[.bool (canR ((1 : Int) : Rat)).neg, .slice a1 (canR ((1 : Int) : Rat)).num.length c1, .slice a2 (canR ((1 : Int) : Rat)).den.length c2] 39)) w3.heap.size (canR (wQs ps (y, n) 0))) := Lib.hid (RatCell.made h1 h2)
  obtain ⟨w4, hw4⟩ : ∃ w4, w4 = w3.alloc (.cells #[.bool (canR ((1 : Int) : Rat)).neg, .slice a1 (canR ((1 : Int) : Rat)).num.length c1, .slice a2 (canR ((1 : Int) : Rat)).den.length c2] 39) := ⟨_, rfl⟩
  have HW4 := Lib.hid hw4
  rw [← hw4] at HC
  have HK4 : Hid (Kept w3 w4) := Lib.hid (by rw [hw4]; exact (Kept.refl _).alloc _)
  generalize hg1 : (canR ((1 : Int) : Rat)).neg = o1 at HW4 ⊢
  generalize hg2 : (canR ((1 : Int) : Rat)).num.length = o2 at HW4 ⊢
  generalize hg3 : (canR ((1 : Int) : Rat)).den.length = o3 at HW4 ⊢
  clear h1 h2 hk3 hw4 hg1 hg2 hg3
  go_wp2_with fail
  rw [← HW4.out]
  go_loopg [11] m (fun kx s11 wr => ∃ k : Nat, k ≤ m ∧ s11 = .int .i64 k ∧ m - k ≤ kx ∧ Hid (RatCell wr w3.heap.size (canR (wQs ps (y, n) k))) ∧ Hid (Kept w3 wr))
  case atStart => exact ⟨0, Nat.zero_le _, rfl, by omega, HC, HK4⟩
  case round =>
    obtain ⟨k, hk, rfl, hkx, HX, HKr⟩ := hrel
    by_cases hlt : k < m
    · have hkn : (k : Int) < (m : Int) := by omega
      have hkl : k < ps.length := by have := HN.out; omega
      have HQS := Lib.hid (qOf_short HP3.out hkl)
      have HNS := Lib.hid (not_short HP3.out HOK.out hkl)
      have HXS := Lib.hid (HSH.out k (by omega))
      obtain ⟨b, o, u1, u2, rfl, hrg, hw1, hw2⟩ := HV.out.get k hkl
      obtain ⟨a3, c3, rfl⟩ := hw1.shape
      obtain ⟨a4, c4, rfl⟩ := hw2.shape
      have HKw := Lib.hid (HK3.out.trans HKr.out)
      have hrg2 := range_same hrg HKw.out
      have y0 := hrg2 0 _ rfl
      have y1 := hrg2 1 _ rfl
      have y2 := hrg2 2 _ rfl
      rw [Nat.add_zero] at y0
      obtain ⟨qn, hqn⟩ : ∃ qn, qn = (ps.getD k default).neg := ⟨_, rfl⟩
      obtain ⟨ql1, hql1⟩ : ∃ ql1, ql1 = (ps.getD k default).num.length := ⟨_, rfl⟩
      obtain ⟨ql2, hql2⟩ : ∃ ql2, ql2 = (ps.getD k default).den.length := ⟨_, rfl⟩
      have HQV : Hid (∀ W, Kept w3 W → RatAt W (.agg #[.bool qn, .slice a3 ql1 c3, .slice a4 ql2 c4]) (ps.getD k default)) := Lib.hid fun W h => ⟨_, _, by rw [hqn, hql1, hql2], hw1.kept (HK3.out.trans h), hw2.kept (HK3.out.trans h)⟩
      rw [← hqn] at y0
      rw [← hql1] at y1
      rw [← hql2] at y2
      have HSB : Hid (∀ W u1 u2, RatAt W u1 (canR ((1 : Int) : Rat)) → RatAt W u2 (ps.getD k default) → Calls Tryz.prog 63 #[u1, u2] W fun e w' => (∃ v', e = .returned v' ∧ RatAt w' v' (canR (1 - qOf ps k))) ∧ Kept W w') := Lib.hid fun W u1 u2 h1 h2 => by
        have h := rsub_any u1 u2 _ _ W h1 h2 ⟨Nat.le_trans one_short.1 (by omega), Nat.le_trans one_short.2 (by omega)⟩ ⟨Nat.le_trans HQS.out.1 (by omega), Nat.le_trans HQS.out.2 (by omega)⟩
        rw [ratOf_one] at h
        exact h
      have k0 := HKr.out.cell HC3.out.1
      obtain ⟨wo, rfl⟩ : ∃ wo : World, wo = wr := ⟨_, rfl⟩
      obtain ⟨w5, hw5⟩ : ∃ w5, w5 = wo.alloc (.cells #[.bool qn, .slice a3 ql1 c3, .slice a4 ql2 c4] 39) := ⟨_, rfl⟩
      have HK5 : Hid (Kept wo w5) := Lib.hid (by rw [hw5]; exact (Kept.refl _).alloc _)
      have HX5 := Lib.hid (HX.out.kept HK5.out)
      have HQ5 : Hid (RowAt w5 wo.heap.size 39 [.bool qn, .slice a3 ql1 c3, .slice a4 ql2 c4]) := Lib.hid (by rw [hw5]; exact RowAt.made wo #[.bool qn, .slice a3 ql1 c3, .slice a4 ql2 c4] 39)
      have HK35 := Lib.hid (HKr.out.trans HK5.out)
      have HNE : Hid (wo.heap.size ≠ w3.heap.size) := Lib.hid (by have := HX.out; obtain ⟨_, _, _, _, h, _⟩ := this; have := h.lt; omega)
      have k01 := HKr.out.cell HC3.out.2
      have k05 := HK5.out.cell k0
      have k15 := HK5.out.cell k01
      have hc3 := World.block_lt_of_cell? _ _ HC3.out.1
      have hcl5 := World.block_lt_of_cell? _ _ k05
      have HW5 := Lib.hid hw5
      clear hrg hrg2 hw1 hw2 hqn hql1 hql2 hw5
      have hcl0 := World.block_lt_of_cell? _ _ k0
      cases hb1 : y.testBit k with
      | false =>
        have HCH1 : Hid (∀ W, Calls Tryz.prog 200 #[.int .i64 y, .int .i64 k] W fun e w' => e = .returned (.bool false) ∧ w' = W) := Lib.hid fun W => by have h := HHY.out k W; rw [hb1] at h; exact h
        obtain ⟨Yk, hYk⟩ : ∃ Yk, Yk = wQs ps (y, n) k := ⟨_, rfl⟩
        have HS2 : Hid (wQs ps (y, n) (k + 1) = Yk * if n.testBit k = true then 1 - qOf ps k else 1) := Lib.hid (by
          rw [hYk]
          show (wQ (qOf ps) (y, n) k * (if y.testBit k = true then qOf ps k else 1)) * _ = _
          rw [if_neg (by rw [hb1]; simp), Rat.mul_one]
          rfl)
        have HYS : Hid ((canR Yk).Short (12 * k + 7)) := Lib.hid (by rw [hYk]; exact ⟨Nat.le_trans HXS.out.1 (by omega), Nat.le_trans HXS.out.2 (by omega)⟩)
        rw [← hYk] at HX5
        have HXW := HX5
        have HKX := HK35
        have HQW := HQ5
        clear hb1 hYk
        go_wp2_with (go_at_call 200; (with_reducible refine (HCH1.out _).mono ?_); rintro e w6 ⟨rfl, h6⟩; rw [h6, ← HW5.out]; clear h6)
        obtain ⟨a5, c5, a6, c6, ⟨x0, x1, x2⟩, ⟨f0, f1, f2⟩, hgl, hxa⟩ := HXW.out.at
        have HXA := Lib.hid hxa
        have q0 := HQW.out.cell (i := 0) (by simp)
        have q1 := HQW.out.cell (i := 1) (by simp)
        have q2 := HQW.out.cell (i := 2) (by simp)
        simp only [List.getElem_cons_succ, List.getElem_cons_zero] at q0 q1 q2
        have hql := HQW.out.lt
        have k1 := HKX.out.cell HC3.out.2
        have hcl := World.block_lt_of_cell? _ _ k1
        generalize (canR Yk).neg = z3 at *
        generalize (canR Yk).num.length = z4 at *
        generalize (canR Yk).den.length = z5 at *
        clear hxa
        cases hb2 : n.testBit k with
        | false =>
          have HCH2 : Hid (∀ W, Calls Tryz.prog 200 #[.int .i64 n, .int .i64 k] W fun e w' => e = .returned (.bool false) ∧ w' = W) := Lib.hid fun W => by have h := HHN.out k W; rw [hb2] at h; exact h
          have HE : Hid (canR (wQs ps (y, n) (k + 1)) = canR Yk) := Lib.hid (by rw [HS2.out, if_neg (by rw [hb2]; simp), Rat.mul_one])
          clear hb2
          refine (HCH2.out _).mono ?_
          rintro e w8 ⟨rfl, h8⟩
          rw [h8]
          clear h8
          go_wp2_with fail
          go_roundg (m - (k + 1))
          case measure => omega
          case rel => exact ⟨k + 1, by omega, by go_num, Nat.le_refl _, Lib.hid (by rw [HE.out]; exact HXW.out), HKX⟩
        | true =>
          have HCH2 : Hid (∀ W, Calls Tryz.prog 200 #[.int .i64 n, .int .i64 k] W fun e w' => e = .returned (.bool true) ∧ w' = W) := Lib.hid fun W => by have h := HHN.out k W; rw [hb2] at h; exact h
          have HE : Hid (canR (wQs ps (y, n) (k + 1)) = canR (ratOf (canR Yk) * ratOf (canR (1 - qOf ps k)))) := Lib.hid (by rw [HS2.out, if_pos hb2, ratOf_can, ratOf_can])
          have HM2 : Hid (∀ W u1 u2, RatAt W u1 (canR Yk) → RatAt W u2 (canR (1 - qOf ps k)) → Calls Tryz.prog 64 #[u1, u2] W fun e w' => (∃ v', e = .returned v' ∧ RatAt w' v' (canR (wQs ps (y, n) (k + 1)))) ∧ Kept W w') := Lib.hid fun W u1 u2 h1 h2 => by
            rw [HE.out]
            exact rmul_any u1 u2 _ _ W h1 h2 ⟨Nat.le_trans HYS.out.1 (by omega), Nat.le_trans HYS.out.2 (by omega)⟩ ⟨Nat.le_trans HNS.out.1 (by omega), Nat.le_trans HNS.out.2 (by omega)⟩
          clear hb2
          have HQR : Hid (∀ W, Kept w5 W → RatAt W (.agg #[.bool qn, .slice a3 ql1 c3, .slice a4 ql2 c4]) (ps.getD k default)) := Lib.hid fun W h => HQV.out W (HKX.out.trans h)
          refine (HCH2.out _).mono ?_
          rintro e w8 ⟨rfl, h8⟩
          rw [h8]
          clear h8
          go_wp2_with fail
          go_region_with (first
            | (go_at_call 55; (with_reducible refine (HOF.out _).mono ?_); rintro e w8 ⟨⟨v8, rfl, hv8⟩, hk8⟩; have hkd := (Kept.refl w5).drew.trans hk8; have i0 := hkd.cell x0; have i1 := hkd.cell x1; have i2 := hkd.cell x2; have j0 := hkd.cell q0; have j1 := hkd.cell q1; have j2 := hkd.cell q2; have HX8 := Lib.hid (HXW.out.kept hkd); have HXA8 := Lib.hid (HXA.out.kept hkd); have HQ8 := Lib.hid (HQR.out _ hkd); have HK8 := Lib.hid (HKX.out.trans hkd); have HV8 := Lib.hid hv8; clear hk8 hkd hv8)
            | (go_at_call 63; (with_reducible refine (HSB.out _ _ _ HV8.out HQ8.out).mono ?_); rintro e w9 ⟨⟨v9, rfl, hv9⟩, hk9⟩; have l0 := hk9.cell i0; have l1 := hk9.cell i1; have l2 := hk9.cell i2; have HX9 := Lib.hid (HX8.out.kept hk9); have HXA9 := Lib.hid (HXA8.out.kept hk9); have HK9 := Lib.hid (HK8.out.trans hk9); have HV9 := Lib.hid hv9; clear hk9 hv9)
            | (go_at_call 64; (with_reducible refine (HM2.out _ _ _ HXA9.out HV9.out).mono ?_); rintro e w7 ⟨⟨v7, rfl, hv7⟩, hk7⟩; have HX7 := Lib.hid (HX9.out.kept hk7); have HK7 := Lib.hid (HK9.out.trans hk7); obtain ⟨u7, u8, rfl, k7, k8⟩ := hv7; obtain ⟨a7, c7, rfl⟩ := k7.shape; obtain ⟨a8, c8, rfl⟩ := k8.shape; have K7 := Lib.hid k7; have K8 := Lib.hid k8; obtain ⟨_, _, _, _, ⟨t0, t1, t2⟩, ⟨j0, j1, j2⟩, hgl6, _⟩ := HX7.out.at; clear k7 k8 hk7))
          all_goals
            have HS := Lib.hid (HX7.out.store K7.out K8.out)
            generalize (canR (wQs ps (y, n) (k + 1))).num.length = n7 at *
            generalize (canR (wQs ps (y, n) (k + 1))).den.length = n8 at *
            go_wp2_with fail
            go_roundg (m - (k + 1))
            case measure => omega
            case rel => exact ⟨k + 1, by omega, by go_num, Nat.le_refl _, HS, Lib.hid (((HK7.out.store (Nat.le_refl _) _ _).store (Nat.le_refl _) _ _).store (Nat.le_refl _) _ _)⟩
      | true =>
        have HCH1 : Hid (∀ W, Calls Tryz.prog 200 #[.int .i64 y, .int .i64 k] W fun e w' => e = .returned (.bool true) ∧ w' = W) := Lib.hid fun W => by have h := HHY.out k W; rw [hb1] at h; exact h
        obtain ⟨Yk, hYk⟩ : ∃ Yk, Yk = wQs ps (y, n) k * qOf ps k := ⟨_, rfl⟩
        have HS2 : Hid (wQs ps (y, n) (k + 1) = Yk * if n.testBit k = true then 1 - qOf ps k else 1) := Lib.hid (by
          rw [hYk]
          show (wQ (qOf ps) (y, n) k * (if y.testBit k = true then qOf ps k else 1)) * _ = _
          rw [if_pos hb1]
          rfl)
        have HYS : Hid ((canR Yk).Short (12 * k + 7)) := Lib.hid (by
          have h := short_mul (canR_ok (wQs ps (y, n) k)) (qOf_ok HOK.out hkl) HXS.out HQS.out (by omega) (by omega)
          rw [ratOf_can] at h
          rw [hYk]
          exact ⟨Nat.le_trans h.1 (by omega), Nat.le_trans h.2 (by omega)⟩)
        have HM1 : Hid (∀ W u1 u2, RatAt W u1 (canR (wQs ps (y, n) k)) → RatAt W u2 (ps.getD k default) → Calls Tryz.prog 64 #[u1, u2] W fun e w' => (∃ v', e = .returned v' ∧ RatAt w' v' (canR Yk)) ∧ Kept W w') := Lib.hid fun W u1 u2 h1 h2 => by
          have h := rmul_any u1 u2 _ _ W h1 h2 ⟨Nat.le_trans HXS.out.1 (by omega), Nat.le_trans HXS.out.2 (by omega)⟩ ⟨Nat.le_trans HQS.out.1 (by omega), Nat.le_trans HQS.out.2 (by omega)⟩
          rw [ratOf_can] at h
          rw [hYk]
          exact h
        obtain ⟨a5, c5, a6, c6, ⟨x0, x1, x2⟩, ⟨f0, f1, f2⟩, hgl, hxa⟩ := HX5.out.at
        have HXA := Lib.hid hxa
        have q0 := HQ5.out.cell (i := 0) (by simp)
        have q1 := HQ5.out.cell (i := 1) (by simp)
        have q2 := HQ5.out.cell (i := 2) (by simp)
        simp only [List.getElem_cons_succ, List.getElem_cons_zero] at q0 q1 q2
        have HQR := Lib.hid (HQV.out w5 HK35.out)
        generalize (canR (wQs ps (y, n) k)).neg = z0 at *
        generalize (canR (wQs ps (y, n) k)).num.length = z1 at *
        generalize (canR (wQs ps (y, n) k)).den.length = z2 at *
        clear hb1 hYk hxa
        go_wp2_with (go_at_call 200; (with_reducible refine (HCH1.out _).mono ?_); rintro e w6 ⟨rfl, h6⟩; rw [h6, ← HW5.out]; clear h6)
        refine (HM1.out _ _ _ HXA.out HQR.out).mono ?_
        rintro e w6 ⟨⟨v6, rfl, hv6⟩, hk6⟩
        have HX6 := Lib.hid (HX5.out.kept hk6)
        have HK6 := Lib.hid (HK35.out.trans hk6)
        have HQ6 := Lib.hid (HQ5.out.kept hk6)
        have k06 := hk6.cell k05
        have k16 := hk6.cell k15
        have hn3 : ¬ w.heap.size = w3.heap.size := by omega
        obtain ⟨u7, u8, rfl, k7, k8⟩ := hv6
        obtain ⟨a7, c7, rfl⟩ := k7.shape
        obtain ⟨a8, c8, rfl⟩ := k8.shape
        obtain ⟨_, _, _, _, ⟨i0, i1, i2⟩, ⟨j0, j1, j2⟩, hgl6, _⟩ := HX6.out.at
        have HS := Lib.hid (HX6.out.store k7 k8)
        have HKS := Lib.hid (((HK6.out.store (Nat.le_refl _) 0 (.bool (canR Yk).neg)).store (Nat.le_refl _) 1 (.slice a7 (canR Yk).num.length c7)).store (Nat.le_refl _) 2 (.slice a8 (canR Yk).den.length c8))
        have HQS6 := Lib.hid ((OnlyAt.row ((((OnlyAt.refl w3.heap.size w6).store 0 (.bool (canR Yk).neg)).store 1 (.slice a7 (canR Yk).num.length c7)).store 2 (.slice a8 (canR Yk).den.length c8)) HQ6.out HNE.out))
        obtain ⟨w7, hw7⟩ : ∃ w7, w7 = ((w6.setCell ⟨w3.heap.size, 0, none⟩ (.bool (canR Yk).neg)).setCell ⟨w3.heap.size, 1, none⟩ (.slice a7 (canR Yk).num.length c7)).setCell ⟨w3.heap.size, 2, none⟩ (.slice a8 (canR Yk).den.length c8) := ⟨_, rfl⟩
        rw [← hw7] at HS HKS HQS6
        have HW7 := Lib.hid hw7
        have HXW := HS
        have HKX := HKS
        have HQW := HQS6
        generalize (canR Yk).neg = z6 at HW7 ⊢
        generalize (canR Yk).num.length = z7 at HW7 ⊢
        generalize (canR Yk).den.length = z8 at HW7 ⊢
        clear k7 k8 hk6 hw7 x0 x1 x2 f0 f1 f2 hgl q0 q1 q2
        go_wp2_with fail
        rw [← HW7.out]
        obtain ⟨a5, c5, a6, c6, ⟨x0, x1, x2⟩, ⟨f0, f1, f2⟩, hgl, hxa⟩ := HXW.out.at
        have HXA := Lib.hid hxa
        have q0 := HQW.out.cell (i := 0) (by simp)
        have q1 := HQW.out.cell (i := 1) (by simp)
        have q2 := HQW.out.cell (i := 2) (by simp)
        simp only [List.getElem_cons_succ, List.getElem_cons_zero] at q0 q1 q2
        have hql := HQW.out.lt
        have k1 := HKX.out.cell HC3.out.2
        have hcl := World.block_lt_of_cell? _ _ k1
        generalize (canR Yk).neg = z3 at *
        generalize (canR Yk).num.length = z4 at *
        generalize (canR Yk).den.length = z5 at *
        clear hxa
        cases hb2 : n.testBit k with
        | false =>
          have HCH2 : Hid (∀ W, Calls Tryz.prog 200 #[.int .i64 n, .int .i64 k] W fun e w' => e = .returned (.bool false) ∧ w' = W) := Lib.hid fun W => by have h := HHN.out k W; rw [hb2] at h; exact h
          have HE : Hid (canR (wQs ps (y, n) (k + 1)) = canR Yk) := Lib.hid (by rw [HS2.out, if_neg (by rw [hb2]; simp), Rat.mul_one])
          clear hb2
          refine (HCH2.out _).mono ?_
          rintro e w8 ⟨rfl, h8⟩
          rw [h8]
          clear h8
          go_wp2_with fail
          go_roundg (m - (k + 1))
          case measure => omega
          case rel => exact ⟨k + 1, by omega, by go_num, Nat.le_refl _, Lib.hid (by rw [HE.out]; exact HXW.out), HKX⟩
        | true =>
          have HCH2 : Hid (∀ W, Calls Tryz.prog 200 #[.int .i64 n, .int .i64 k] W fun e w' => e = .returned (.bool true) ∧ w' = W) := Lib.hid fun W => by have h := HHN.out k W; rw [hb2] at h; exact h
          have HE : Hid (canR (wQs ps (y, n) (k + 1)) = canR (ratOf (canR Yk) * ratOf (canR (1 - qOf ps k)))) := Lib.hid (by rw [HS2.out, if_pos hb2, ratOf_can, ratOf_can])
          have HM2 : Hid (∀ W u1 u2, RatAt W u1 (canR Yk) → RatAt W u2 (canR (1 - qOf ps k)) → Calls Tryz.prog 64 #[u1, u2] W fun e w' => (∃ v', e = .returned v' ∧ RatAt w' v' (canR (wQs ps (y, n) (k + 1)))) ∧ Kept W w') := Lib.hid fun W u1 u2 h1 h2 => by
            rw [HE.out]
            exact rmul_any u1 u2 _ _ W h1 h2 ⟨Nat.le_trans HYS.out.1 (by omega), Nat.le_trans HYS.out.2 (by omega)⟩ ⟨Nat.le_trans HNS.out.1 (by omega), Nat.le_trans HNS.out.2 (by omega)⟩
          clear hb2
          have HQR : Hid (∀ W, Kept w7 W → RatAt W (.agg #[.bool qn, .slice a3 ql1 c3, .slice a4 ql2 c4]) (ps.getD k default)) := Lib.hid fun W h => HQV.out W (HKX.out.trans h)
          refine (HCH2.out _).mono ?_
          rintro e w8 ⟨rfl, h8⟩
          rw [h8]
          clear h8
          go_wp2_with fail
          go_region_with (first
            | (go_at_call 55; (with_reducible refine (HOF.out _).mono ?_); rintro e w8 ⟨⟨v8, rfl, hv8⟩, hk8⟩; have hkd := (Kept.refl w7).drew.trans hk8; have i0 := hkd.cell x0; have i1 := hkd.cell x1; have i2 := hkd.cell x2; have j0 := hkd.cell q0; have j1 := hkd.cell q1; have j2 := hkd.cell q2; have HX8 := Lib.hid (HXW.out.kept hkd); have HXA8 := Lib.hid (HXA.out.kept hkd); have HQ8 := Lib.hid (HQR.out _ hkd); have HK8 := Lib.hid (HKX.out.trans hkd); have HV8 := Lib.hid hv8; clear hk8 hkd hv8)
            | (go_at_call 63; (with_reducible refine (HSB.out _ _ _ HV8.out HQ8.out).mono ?_); rintro e w9 ⟨⟨v9, rfl, hv9⟩, hk9⟩; have l0 := hk9.cell i0; have l1 := hk9.cell i1; have l2 := hk9.cell i2; have HX9 := Lib.hid (HX8.out.kept hk9); have HXA9 := Lib.hid (HXA8.out.kept hk9); have HK9 := Lib.hid (HK8.out.trans hk9); have HV9 := Lib.hid hv9; clear hk9 hv9)
            | (go_at_call 64; (with_reducible refine (HM2.out _ _ _ HXA9.out HV9.out).mono ?_); rintro e w7 ⟨⟨v7, rfl, hv7⟩, hk7⟩; have HX7 := Lib.hid (HX9.out.kept hk7); have HK7 := Lib.hid (HK9.out.trans hk7); obtain ⟨u7, u8, rfl, k7, k8⟩ := hv7; obtain ⟨a7, c7, rfl⟩ := k7.shape; obtain ⟨a8, c8, rfl⟩ := k8.shape; have K7 := Lib.hid k7; have K8 := Lib.hid k8; obtain ⟨_, _, _, _, ⟨t0, t1, t2⟩, ⟨j0, j1, j2⟩, hgl6, _⟩ := HX7.out.at; clear k7 k8 hk7))
          all_goals
            have HS := Lib.hid (HX7.out.store K7.out K8.out)
            generalize (canR (wQs ps (y, n) (k + 1))).num.length = n7 at *
            generalize (canR (wQs ps (y, n) (k + 1))).den.length = n8 at *
            go_wp2_with fail
            go_roundg (m - (k + 1))
            case measure => omega
            case rel => exact ⟨k + 1, by omega, by go_num, Nat.le_refl _, HS, Lib.hid (((HK7.out.store (Nat.le_refl _) _ _).store (Nat.le_refl _) _ _).store (Nat.le_refl _) _ _)⟩
    · have hke : k = m := by omega
      have hkn : ¬ (k : Int) < (m : Int) := by omega
      have HX2 : Hid (RatCell wr w3.heap.size R) := Lib.hid (by rw [HRR.out, ← hke]; exact HX.out)
      have hrr := HR3.out.kept HKr.out
      have HFF := Lib.hid (HF3.out.kept HKr.out)
      obtain ⟨a5, c5, a6, c6, ⟨x0, x1, x2⟩, _, hgl, u7, u8, e9, k7, k8⟩ := HX2.out.at
      simp only [Value.agg.injEq] at e9
      have e9' := congrArg Array.toList e9
      simp at e9'
      obtain ⟨rfl, rfl⟩ := e9'
      obtain ⟨y0, y1, y2, hra⟩ := rat_stored hrr HFF.out k7 k8
      have g0 := hrr.cell (i := 0) (by simp)
      have g1 := hrr.cell (i := 1) (by simp)
      have g2 := hrr.cell (i := 2) (by simp)
      have f0 := hrr.free 0
      have f1 := hrr.free 1
      have f2 := hrr.free 2
      have hlt5 := hrr.lt
      have HRA := Lib.hid hra
      have Y0 := Lib.hid y0
      have Y1 := Lib.hid y1
      have Y2 := Lib.hid y2
      have HKw := Lib.hid (HK3.out.trans HKr.out)
      clear hra y0 y1 y2 k7 k8 hrr e9 hke
      generalize R.num.length = n7 at *
      generalize R.den.length = n8 at *
      go_wp2
      refine bodyPost_ret (v := .agg #[.bool R.neg, .slice a5 n7 c5, .slice a6 n8 c6]) ?_ rfl ⟨⟨_, rfl, HRA.out⟩, ?_⟩
      · simp [results, Tryz.results168, go_sem, Y0.out, Y1.out, Y2.out]
      · exact ((HKw.out.store (by omega) _ _).store (by omega) _ _).store (by omega) _ _
end Go.Proofs.YtbkchheikkbebaaGreatDoor

/-
  Walk: disjoint.total. Printed by gen_I10.py.
-/
namespace Go.Proofs.YtbkchheikkbebaaGreatDoor
open Go.RowKit

set_option maxRecDepth 100000 in
set_option maxHeartbeats 16000000 in
theorem dtotal_any (cv v : Value) (L : List (Nat × Nat)) (ps : List Rw) (w : World) (hc : CbsAt w cv (ofCs L)) (hb : ∀ c ∈ L, c.1 < 16777216 ∧ c.2 < 16777216) (hL : L.length ≤ 1024) (hv : RatsAt w v ps) (hp3 : ∀ r ∈ ps, r.Short 3) (hp30 : ps.length ≤ 30) :
    Calls Tryz.prog 89 #[cv, v] w fun e w' => (∃ v', e = .returned v' ∧ RatAt w' v' (canR (sumWs ps L L.length))) ∧ Kept w w' := by
  have HPR : Hid (∀ (y n : Nat) W, y < 16777216 → n < 16777216 → Kept w W → Calls Tryz.prog 168 #[.agg #[.int .i64 y, .int .i64 n], v] W fun e w' => (∃ v', e = .returned v' ∧ RatAt w' v' (canR (wQs ps (y, n) ps.length))) ∧ Kept W w') := Lib.hid fun y n W h1 h2 hk => dweight_any y n v ps W h1 h2 (hv.kept hk) hp3 hp30
  have HSS := Lib.hid (fun k hk => sumWs_short (l := L) hp3 hv.ok hp30 k hk)
  have HPS := Lib.hid (fun c => wQ_short (c := c) hp3 hv.ok ps.length (Nat.le_refl _))
  have HV := Lib.hid hc
  have HB := Lib.hid hb
  obtain ⟨ca, cc, rfl⟩ := hc.shape
  obtain ⟨a, c, rfl⟩ := hv.shape
  rw [ofCs_len] at HV ⊢
  obtain ⟨m, hm⟩ : ∃ m, m = L.length := ⟨_, rfl⟩
  rw [← hm] at HV hL HSS ⊢
  have HM := Lib.hid hm
  obtain ⟨pn, hpn⟩ : ∃ pn, pn = ps.length := ⟨_, rfl⟩
  rw [← hpn] at HPR HPS hp30 ⊢
  have HPN := Lib.hid hpn
  obtain ⟨R, hR⟩ : ∃ R, R = canR (sumWs ps L m) := ⟨_, rfl⟩
  rw [← hR]
  have HRR := Lib.hid hR
  obtain ⟨w1, hw1⟩ : ∃ w1, w1 = w.alloc (.cells #[.bool false, .slice none 0 0, .slice none 0 0] 39) := ⟨_, rfl⟩
  have HR1 : Hid (RowAt w1 w.heap.size 39 [.bool false, .slice none 0 0, .slice none 0 0]) := Lib.hid (by rw [hw1]; exact RowAt.made w #[.bool false, .slice none 0 0, .slice none 0 0] 39)
  have HF1 : Hid (FixAt w1 w.heap.size [.bool false, .slice none 0 0, .slice none 0 0]) := Lib.hid (by rw [hw1]; exact FixAt.made w #[.bool false, .slice none 0 0, .slice none 0 0] 39)
  have HK1 : Hid (Kept w w1) := Lib.hid (by rw [hw1]; exact (Kept.refl _).alloc _)
  have HS1 : Hid (w1.heap.size = w.heap.size + 1) := Lib.hid (by rw [hw1]; simp)
  obtain ⟨w2, hw2⟩ : ∃ w2, w2 = w1.alloc (.cells #[.bool false, .slice none 0 0, .slice none 0 0] 39) := ⟨_, rfl⟩
  have HC : Hid (RatCell w2 w1.heap.size (canR (sumWs ps L 0))) := Lib.hid (by rw [hw2]; exact RatCell.made (r := ⟨false, [], []⟩) (WdsAt.nil w1) (WdsAt.nil w1))
  have HK2 : Hid (Kept w1 w2) := Lib.hid (by rw [hw2]; exact (Kept.refl _).alloc _)
  have HW1 := Lib.hid hw1
  have HW2 := Lib.hid hw2
  clear hm hc hv hp3 hb hpn hR hw1 hw2
  go_enter Tryz.func89, Tryz.ntmps89
  go_wp2_with fail
  rw [← HW1.out, ← HS1.out, ← HW2.out]
  go_loopg [10] m (fun kx s10 wq => ∃ j : Nat, j ≤ m ∧ s10 = .int .i64 j ∧ m - j ≤ kx ∧ Hid (RatCell wq w1.heap.size (canR (sumWs ps L j))) ∧ Hid (Kept w1 wq))
  case atStart => exact ⟨0, Nat.zero_le _, rfl, by omega, HC, HK2⟩
  case round =>
    obtain ⟨j, hj, rfl, hjx, HX, HKq⟩ := hrel
    have HKw2 := Lib.hid (HK1.out.trans HKq.out)
    by_cases hjm : j < m
    · have hjl : j < L.length := by have := HM.out; omega
      obtain ⟨b, o, rfl, g1, g2⟩ := HV.out.get j (by rw [ofCs_len]; exact hjl)
      have eC : (ofCs L).getD j default = ofC L[j] := ofCs_getD hjl
      rw [eC] at g1 g2
      obtain ⟨y, hy⟩ : ∃ y, y = L[j].1 := ⟨_, rfl⟩
      obtain ⟨n, hn⟩ : ∃ n, n = L[j].2 := ⟨_, rfl⟩
      have eL : L[j] = (y, n) := by rw [hy, hn]
      have hbd := HB.out L[j] (List.getElem_mem hjl)
      rw [eL] at g1 g2 hbd
      have x1 := HKw2.out.cell g1
      have x2 := HKw2.out.cell g2
      rw [← Nat.add_assoc] at x2
      simp only [ofC] at x1 x2
      have HP := Lib.hid (fun W (h : Kept w W) => HPR.out y n W hbd.1 hbd.2 h)
      have HST : Hid (canR (sumWs ps L (j + 1)) = canR (ratOf (canR (sumWs ps L j)) + ratOf (canR (wQs ps (y, n) pn)))) := Lib.hid (by rw [sumWs_succ hjl, ratOf_can, ratOf_can, HPN.out, eL])
      have hsk := HSS.out j (by omega)
      have hps := HPS.out (y, n)
      have hji : (j : Int) < (m : Int) := by omega
      have HAD : Hid (∀ W u1 u2, RatAt W u1 (canR (sumWs ps L j)) → RatAt W u2 (canR (wQs ps (y, n) pn)) → Calls Tryz.prog 47 #[u1, u2] W fun e w' => (∃ v', e = .returned v' ∧ RatAt w' v' (canR (sumWs ps L (j + 1)))) ∧ Kept W w') := Lib.hid fun W u1 u2 k1 k2 => by
        rw [HST.out]
        exact radd_any u1 u2 _ _ W k1 k2 ⟨Nat.le_trans hsk.1 (by omega), Nat.le_trans hsk.2 (by omega)⟩ ⟨Nat.le_trans hps.1 (by omega), Nat.le_trans hps.2 (by omega)⟩
      obtain ⟨wo, rfl⟩ : ∃ wo : World, wo = wr := ⟨_, rfl⟩
      obtain ⟨w5, hw5⟩ : ∃ w5, w5 = wo.alloc (.cells #[.int .i64 (y : Int), .int .i64 (n : Int)] 55) := ⟨_, rfl⟩
      have HK5 : Hid (Kept wo w5) := Lib.hid (by rw [hw5]; exact (Kept.refl _).alloc _)
      have hq5 := RowAt.made wo #[.int .i64 (y : Int), .int .i64 (n : Int)] 55
      rw [← hw5] at hq5
      have q0 := hq5.cell (i := 0) (by simp)
      have q1 := hq5.cell (i := 1) (by simp)
      simp only [List.getElem_cons_succ, List.getElem_cons_zero] at q0 q1
      have hql := hq5.lt
      have HX5 := Lib.hid (HX.out.kept HK5.out)
      have HKq5 := Lib.hid (HKq.out.trans HK5.out)
      have HKw5 := Lib.hid (HKw2.out.trans HK5.out)
      obtain ⟨a5, c5, a6, c6, ⟨x0, x3, x4⟩, ⟨f0, f1, f2⟩, hgl, hxa⟩ := HX5.out.at
      have HXA := Lib.hid hxa
      have HW5 := Lib.hid hw5
      generalize (canR (sumWs ps L j)).neg = z3 at *
      generalize (canR (sumWs ps L j)).num.length = z4 at *
      generalize (canR (sumWs ps L j)).den.length = z5 at *
      clear g1 g2 eC hsk hps hxa hy hn hw5 hq5
      go_wp2_with fail
      rw [← HW5.out]
      go_region_with (first
        | (go_at_call 168; (with_reducible refine (HP.out _ (HKw5.out.drew)).mono ?_); rintro e w6 ⟨⟨v6, rfl, hv6⟩, hk6⟩; have hkd := (Kept.refl _).drew.trans hk6; have i0 := hkd.cell x0; have i1 := hkd.cell x3; have i2 := hkd.cell x4; have HX6 := Lib.hid (HX5.out.kept hkd); have HXA6 := Lib.hid (HXA.out.kept hkd); have HK6 := Lib.hid (HKq5.out.trans hkd); have HV6 := Lib.hid hv6; clear hk6 hkd hv6)
        | (go_at_call 47; (with_reducible refine (HAD.out _ _ _ HXA6.out HV6.out).mono ?_); rintro e w7 ⟨⟨v7, rfl, hv7⟩, hk7⟩; have HX7 := Lib.hid (HX6.out.kept hk7); have HK7 := Lib.hid (HK6.out.trans hk7); obtain ⟨u7, u8, rfl, k7, k8⟩ := hv7; obtain ⟨a7, c7, rfl⟩ := k7.shape; obtain ⟨a8, c8, rfl⟩ := k8.shape; have K7 := Lib.hid k7; have K8 := Lib.hid k8; obtain ⟨_, _, _, _, ⟨t0, t1, t2⟩, ⟨j0, j1, j2⟩, hgl6, _⟩ := HX7.out.at; clear k7 k8 hk7))
      all_goals
        have HS := Lib.hid (HX7.out.store K7.out K8.out)
        generalize (canR (sumWs ps L (j + 1))).num.length = n7 at *
        generalize (canR (sumWs ps L (j + 1))).den.length = n8 at *
        go_wp2_with fail
        go_roundg (m - (j + 1))
        case measure => omega
        case rel => exact ⟨j + 1, by omega, by go_num, Nat.le_refl _, HS, Lib.hid (((HK7.out.store (Nat.le_refl _) _ _).store (Nat.le_refl _) _ _).store (Nat.le_refl _) _ _)⟩
    · have hje : j = m := by omega
      have hji : ¬ (j : Int) < (m : Int) := by omega
      have HX2 : Hid (RatCell wr w1.heap.size R) := Lib.hid (by rw [HRR.out, ← hje]; exact HX.out)
      have hrr := HR1.out.kept HKq.out
      have HFF := Lib.hid (HF1.out.kept HKq.out)
      obtain ⟨a5, c5, a6, c6, ⟨x0, x1, x2⟩, _, hgl, u7, u8, e9, k7, k8⟩ := HX2.out.at
      simp only [Value.agg.injEq] at e9
      have e9' := congrArg Array.toList e9
      simp at e9'
      obtain ⟨rfl, rfl⟩ := e9'
      obtain ⟨y0, y1, y2, hra⟩ := rat_stored hrr HFF.out k7 k8
      have g0 := hrr.cell (i := 0) (by simp)
      have g1 := hrr.cell (i := 1) (by simp)
      have g2 := hrr.cell (i := 2) (by simp)
      have f0 := hrr.free 0
      have f1 := hrr.free 1
      have f2 := hrr.free 2
      have hlt5 := hrr.lt
      have HRA := Lib.hid hra
      have Y := Lib.hid (And.intro y0 (And.intro y1 y2))
      clear hra y0 y1 y2 k7 k8 hrr e9
      clear hje
      generalize R.num.length = n7 at *
      generalize R.den.length = n8 at *
      go_wp2
      refine bodyPost_ret (v := .agg #[.bool R.neg, .slice a5 n7 c5, .slice a6 n8 c6]) ?_ rfl ⟨⟨_, rfl, HRA.out⟩, ?_⟩
      · simp [results, Tryz.results89, go_sem, Y.out.1, Y.out.2.1, Y.out.2.2]
      · exact ((HKw2.out.store (by omega) _ _).store (by omega) _ _).store (by omega) _ _
end Go.Proofs.YtbkchheikkbebaaGreatDoor

/-
  Walks: the weight of a cube, of the reference. Printed by gen_I9.py.
-/
namespace Go.Proofs.YtbkchheikkbebaaGreatDoor
open Go.RowKit

set_option maxRecDepth 100000 in
set_option maxHeartbeats 16000000 in
theorem rweight_any (y n : Nat) (v : Value) (ps : List Rw) (w : World) (hy : y < 16777216) (hn : n < 16777216) (hv : RatsAt w v ps) (hp3 : ∀ r ∈ ps, r.Short 3) (hp30 : ps.length ≤ 30) :
    Calls Tryz.prog 92 #[.agg #[.int .i64 y, .int .i64 n], v] w fun e w' => (∃ v', e = .returned v' ∧ RatAt w' v' (canR (wQs ps (y, n) ps.length))) ∧ Kept w w' := by
  have HOF : Hid (∀ W, Calls Tryz.prog 112 #[.int .i64 1] W fun e w' => (∃ v', e = .returned v' ∧ RatAt w' v' (canR ((1 : Int) : Rat))) ∧ Kept W w') := Lib.hid fun W => refof_any 1 W (by omega)
  have HHY := Lib.hid (fun (i : Nat) W => hasR05_any y i hy W)
  have HHN := Lib.hid (fun (i : Nat) W => hasR05_any n i hn W)
  have HSH := Lib.hid (fun k hk => wQ_short (c := (y, n)) hp3 hv.ok k hk)
  have HP3 := Lib.hid hp3
  have HOK := Lib.hid hv.ok
  have HV := Lib.hid hv
  obtain ⟨a, c, rfl⟩ := hv.shape
  obtain ⟨m, hm⟩ : ∃ m, m = ps.length := ⟨_, rfl⟩
  rw [← hm] at HV hp30 ⊢
  have HN := Lib.hid hm
  obtain ⟨R, hR⟩ : ∃ R, R = canR (wQs ps (y, n) m) := ⟨_, rfl⟩
  rw [← hR]
  have HRR := Lib.hid hR
  obtain ⟨w2, hw2⟩ : ∃ w2, w2 = (w.alloc (.cells #[.int .i64 y, .int .i64 n] 55)).alloc (.cells #[.bool false, .slice none 0 0, .slice none 0 0] 39) := ⟨_, rfl⟩
  have hbx := (RowAt.made w #[.int .i64 (y : Int), .int .i64 (n : Int)] 55).kept ((Kept.refl _).alloc (.cells #[.bool false, .slice none 0 0, .slice none 0 0] 39))
  have HMD := Lib.hid (res_made w (.cells #[.int .i64 y, .int .i64 n] 55))
  rw [← hw2] at hbx HMD
  have HW2 := Lib.hid hw2
  have b0 := hbx.cell (i := 0) (by simp)
  have b1 := hbx.cell (i := 1) (by simp)
  simp only [List.getElem_cons_succ, List.getElem_cons_zero] at b0 b1
  have HBB := Lib.hid (And.intro b0 b1)
  clear hm hv hp3 hy hn hw2 hbx hR b0 b1
  go_enter Tryz.func92, Tryz.ntmps92
  go_wp2_with fail
  rw [← HW2.out]
  refine (HOF.out _).mono ?_
  rintro e w3 ⟨⟨v3, rfl, hv3⟩, hk3⟩
  have HR3 := Lib.hid (HMD.out.1.kept hk3)
  have HF3 := Lib.hid (HMD.out.2.1.kept hk3)
  have HK3 := Lib.hid (HMD.out.2.2.trans hk3)
  have HC3 := Lib.hid (And.intro (hk3.cell HBB.out.1) (hk3.cell HBB.out.2))
  obtain ⟨u1, u2, rfl, h1, h2⟩ := hv3
  obtain ⟨a1, c1, rfl⟩ := h1.shape
  obtain ⟨a2, c2, rfl⟩ := h2.shape
  have HC : Hid (RatCell (w3.alloc (.cells #[.bool (canR ((1 : Int) : Rat)).neg, .slice a1 (canR ((1 : Int) : Rat)).num.length c1, .slice a2 (canR ((1 : Int) : Rat)).den.length c2] 39)) w3.heap.size (canR (wQs ps (y, n) 0))) := Lib.hid (RatCell.made h1 h2)
  obtain ⟨w4, hw4⟩ : ∃ w4, w4 = w3.alloc (.cells #[.bool (canR ((1 : Int) : Rat)).neg, .slice a1 (canR ((1 : Int) : Rat)).num.length c1, .slice a2 (canR ((1 : Int) : Rat)).den.length c2] 39) := ⟨_, rfl⟩
  have HW4 := Lib.hid hw4
  rw [← hw4] at HC
  have HK4 : Hid (Kept w3 w4) := Lib.hid (by rw [hw4]; exact (Kept.refl _).alloc _)
  generalize hg1 : (canR ((1 : Int) : Rat)).neg = o1 at HW4 ⊢
  generalize hg2 : (canR ((1 : Int) : Rat)).num.length = o2 at HW4 ⊢
  generalize hg3 : (canR ((1 : Int) : Rat)).den.length = o3 at HW4 ⊢
  clear h1 h2 hk3 hw4 hg1 hg2 hg3
  go_wp2_with fail
  rw [← HW4.out]
  go_loopg [11] m (fun kx s11 wr => ∃ k : Nat, k ≤ m ∧ s11 = .int .i64 k ∧ m - k ≤ kx ∧ Hid (RatCell wr w3.heap.size (canR (wQs ps (y, n) k))) ∧ Hid (Kept w3 wr))
  case atStart => exact ⟨0, Nat.zero_le _, rfl, by omega, HC, HK4⟩
  case round =>
    obtain ⟨k, hk, rfl, hkx, HX, HKr⟩ := hrel
    by_cases hlt : k < m
    · have hkn : (k : Int) < (m : Int) := by omega
      have hkl : k < ps.length := by have := HN.out; omega
      have HQS := Lib.hid (qOf_short HP3.out hkl)
      have HNS := Lib.hid (not_short HP3.out HOK.out hkl)
      have HXS := Lib.hid (HSH.out k (by omega))
      obtain ⟨b, o, u1, u2, rfl, hrg, hw1, hw2⟩ := HV.out.get k hkl
      obtain ⟨a3, c3, rfl⟩ := hw1.shape
      obtain ⟨a4, c4, rfl⟩ := hw2.shape
      have HKw := Lib.hid (HK3.out.trans HKr.out)
      have hrg2 := range_same hrg HKw.out
      have y0 := hrg2 0 _ rfl
      have y1 := hrg2 1 _ rfl
      have y2 := hrg2 2 _ rfl
      rw [Nat.add_zero] at y0
      obtain ⟨qn, hqn⟩ : ∃ qn, qn = (ps.getD k default).neg := ⟨_, rfl⟩
      obtain ⟨ql1, hql1⟩ : ∃ ql1, ql1 = (ps.getD k default).num.length := ⟨_, rfl⟩
      obtain ⟨ql2, hql2⟩ : ∃ ql2, ql2 = (ps.getD k default).den.length := ⟨_, rfl⟩
      have HQV : Hid (∀ W, Kept w3 W → RatAt W (.agg #[.bool qn, .slice a3 ql1 c3, .slice a4 ql2 c4]) (ps.getD k default)) := Lib.hid fun W h => ⟨_, _, by rw [hqn, hql1, hql2], hw1.kept (HK3.out.trans h), hw2.kept (HK3.out.trans h)⟩
      rw [← hqn] at y0
      rw [← hql1] at y1
      rw [← hql2] at y2
      have HSB : Hid (∀ W u1 u2, RatAt W u1 (canR ((1 : Int) : Rat)) → RatAt W u2 (ps.getD k default) → Calls Tryz.prog 113 #[u1, u2] W fun e w' => (∃ v', e = .returned v' ∧ RatAt w' v' (canR (1 - qOf ps k))) ∧ Kept W w') := Lib.hid fun W u1 u2 h1 h2 => by
        have h := refsub02_any u1 u2 _ _ W h1 h2 ⟨Nat.le_trans one_short.1 (by omega), Nat.le_trans one_short.2 (by omega)⟩ ⟨Nat.le_trans HQS.out.1 (by omega), Nat.le_trans HQS.out.2 (by omega)⟩
        rw [ratOf_one] at h
        exact h
      have k0 := HKr.out.cell HC3.out.1
      obtain ⟨wo, rfl⟩ : ∃ wo : World, wo = wr := ⟨_, rfl⟩
      obtain ⟨w5, hw5⟩ : ∃ w5, w5 = wo.alloc (.cells #[.bool qn, .slice a3 ql1 c3, .slice a4 ql2 c4] 39) := ⟨_, rfl⟩
      have HK5 : Hid (Kept wo w5) := Lib.hid (by rw [hw5]; exact (Kept.refl _).alloc _)
      have HX5 := Lib.hid (HX.out.kept HK5.out)
      have HQ5 : Hid (RowAt w5 wo.heap.size 39 [.bool qn, .slice a3 ql1 c3, .slice a4 ql2 c4]) := Lib.hid (by rw [hw5]; exact RowAt.made wo #[.bool qn, .slice a3 ql1 c3, .slice a4 ql2 c4] 39)
      have HK35 := Lib.hid (HKr.out.trans HK5.out)
      have HNE : Hid (wo.heap.size ≠ w3.heap.size) := Lib.hid (by have := HX.out; obtain ⟨_, _, _, _, h, _⟩ := this; have := h.lt; omega)
      have k01 := HKr.out.cell HC3.out.2
      have k05 := HK5.out.cell k0
      have k15 := HK5.out.cell k01
      have hc3 := World.block_lt_of_cell? _ _ HC3.out.1
      have hcl5 := World.block_lt_of_cell? _ _ k05
      have HW5 := Lib.hid hw5
      clear hrg hrg2 hw1 hw2 hqn hql1 hql2 hw5
      have hcl0 := World.block_lt_of_cell? _ _ k0
      cases hb1 : y.testBit k with
      | false =>
        have HCH1 : Hid (∀ W, Calls Tryz.prog 175 #[.int .i64 y, .int .i64 k] W fun e w' => e = .returned (.bool false) ∧ w' = W) := Lib.hid fun W => by have h := HHY.out k W; rw [hb1] at h; exact h
        obtain ⟨Yk, hYk⟩ : ∃ Yk, Yk = wQs ps (y, n) k := ⟨_, rfl⟩
        have HS2 : Hid (wQs ps (y, n) (k + 1) = Yk * if n.testBit k = true then 1 - qOf ps k else 1) := Lib.hid (by
          rw [hYk]
          show (wQ (qOf ps) (y, n) k * (if y.testBit k = true then qOf ps k else 1)) * _ = _
          rw [if_neg (by rw [hb1]; simp), Rat.mul_one]
          rfl)
        have HYS : Hid ((canR Yk).Short (12 * k + 7)) := Lib.hid (by rw [hYk]; exact ⟨Nat.le_trans HXS.out.1 (by omega), Nat.le_trans HXS.out.2 (by omega)⟩)
        rw [← hYk] at HX5
        have HXW := HX5
        have HKX := HK35
        have HQW := HQ5
        clear hb1 hYk
        go_wp2_with (go_at_call 175; (with_reducible refine (HCH1.out _).mono ?_); rintro e w6 ⟨rfl, h6⟩; rw [h6, ← HW5.out]; clear h6)
        obtain ⟨a5, c5, a6, c6, ⟨x0, x1, x2⟩, ⟨f0, f1, f2⟩, hgl, hxa⟩ := HXW.out.at
        have HXA := Lib.hid hxa
        have q0 := HQW.out.cell (i := 0) (by simp)
        have q1 := HQW.out.cell (i := 1) (by simp)
        have q2 := HQW.out.cell (i := 2) (by simp)
        simp only [List.getElem_cons_succ, List.getElem_cons_zero] at q0 q1 q2
        have hql := HQW.out.lt
        have k1 := HKX.out.cell HC3.out.2
        have hcl := World.block_lt_of_cell? _ _ k1
        generalize (canR Yk).neg = z3 at *
        generalize (canR Yk).num.length = z4 at *
        generalize (canR Yk).den.length = z5 at *
        clear hxa
        cases hb2 : n.testBit k with
        | false =>
          have HCH2 : Hid (∀ W, Calls Tryz.prog 175 #[.int .i64 n, .int .i64 k] W fun e w' => e = .returned (.bool false) ∧ w' = W) := Lib.hid fun W => by have h := HHN.out k W; rw [hb2] at h; exact h
          have HE : Hid (canR (wQs ps (y, n) (k + 1)) = canR Yk) := Lib.hid (by rw [HS2.out, if_neg (by rw [hb2]; simp), Rat.mul_one])
          clear hb2
          refine (HCH2.out _).mono ?_
          rintro e w8 ⟨rfl, h8⟩
          rw [h8]
          clear h8
          go_wp2_with fail
          go_roundg (m - (k + 1))
          case measure => omega
          case rel => exact ⟨k + 1, by omega, by go_num, Nat.le_refl _, Lib.hid (by rw [HE.out]; exact HXW.out), HKX⟩
        | true =>
          have HCH2 : Hid (∀ W, Calls Tryz.prog 175 #[.int .i64 n, .int .i64 k] W fun e w' => e = .returned (.bool true) ∧ w' = W) := Lib.hid fun W => by have h := HHN.out k W; rw [hb2] at h; exact h
          have HE : Hid (canR (wQs ps (y, n) (k + 1)) = canR (ratOf (canR Yk) * ratOf (canR (1 - qOf ps k)))) := Lib.hid (by rw [HS2.out, if_pos hb2, ratOf_can, ratOf_can])
          have HM2 : Hid (∀ W u1 u2, RatAt W u1 (canR Yk) → RatAt W u2 (canR (1 - qOf ps k)) → Calls Tryz.prog 176 #[u1, u2] W fun e w' => (∃ v', e = .returned v' ∧ RatAt w' v' (canR (wQs ps (y, n) (k + 1)))) ∧ Kept W w') := Lib.hid fun W u1 u2 h1 h2 => by
            rw [HE.out]
            exact refmul02_any u1 u2 _ _ W h1 h2 ⟨Nat.le_trans HYS.out.1 (by omega), Nat.le_trans HYS.out.2 (by omega)⟩ ⟨Nat.le_trans HNS.out.1 (by omega), Nat.le_trans HNS.out.2 (by omega)⟩
          clear hb2
          have HQR : Hid (∀ W, Kept w5 W → RatAt W (.agg #[.bool qn, .slice a3 ql1 c3, .slice a4 ql2 c4]) (ps.getD k default)) := Lib.hid fun W h => HQV.out W (HKX.out.trans h)
          refine (HCH2.out _).mono ?_
          rintro e w8 ⟨rfl, h8⟩
          rw [h8]
          clear h8
          go_wp2_with fail
          go_region_with (first
            | (go_at_call 112; (with_reducible refine (HOF.out _).mono ?_); rintro e w8 ⟨⟨v8, rfl, hv8⟩, hk8⟩; have hkd := (Kept.refl w5).drew.trans hk8; have i0 := hkd.cell x0; have i1 := hkd.cell x1; have i2 := hkd.cell x2; have j0 := hkd.cell q0; have j1 := hkd.cell q1; have j2 := hkd.cell q2; have HX8 := Lib.hid (HXW.out.kept hkd); have HXA8 := Lib.hid (HXA.out.kept hkd); have HQ8 := Lib.hid (HQR.out _ hkd); have HK8 := Lib.hid (HKX.out.trans hkd); have HV8 := Lib.hid hv8; clear hk8 hkd hv8)
            | (go_at_call 113; (with_reducible refine (HSB.out _ _ _ HV8.out HQ8.out).mono ?_); rintro e w9 ⟨⟨v9, rfl, hv9⟩, hk9⟩; have l0 := hk9.cell i0; have l1 := hk9.cell i1; have l2 := hk9.cell i2; have HX9 := Lib.hid (HX8.out.kept hk9); have HXA9 := Lib.hid (HXA8.out.kept hk9); have HK9 := Lib.hid (HK8.out.trans hk9); have HV9 := Lib.hid hv9; clear hk9 hv9)
            | (go_at_call 176; (with_reducible refine (HM2.out _ _ _ HXA9.out HV9.out).mono ?_); rintro e w7 ⟨⟨v7, rfl, hv7⟩, hk7⟩; have HX7 := Lib.hid (HX9.out.kept hk7); have HK7 := Lib.hid (HK9.out.trans hk7); obtain ⟨u7, u8, rfl, k7, k8⟩ := hv7; obtain ⟨a7, c7, rfl⟩ := k7.shape; obtain ⟨a8, c8, rfl⟩ := k8.shape; have K7 := Lib.hid k7; have K8 := Lib.hid k8; obtain ⟨_, _, _, _, ⟨t0, t1, t2⟩, ⟨j0, j1, j2⟩, hgl6, _⟩ := HX7.out.at; clear k7 k8 hk7))
          all_goals
            have HS := Lib.hid (HX7.out.store K7.out K8.out)
            generalize (canR (wQs ps (y, n) (k + 1))).num.length = n7 at *
            generalize (canR (wQs ps (y, n) (k + 1))).den.length = n8 at *
            go_wp2_with fail
            go_roundg (m - (k + 1))
            case measure => omega
            case rel => exact ⟨k + 1, by omega, by go_num, Nat.le_refl _, HS, Lib.hid (((HK7.out.store (Nat.le_refl _) _ _).store (Nat.le_refl _) _ _).store (Nat.le_refl _) _ _)⟩
      | true =>
        have HCH1 : Hid (∀ W, Calls Tryz.prog 175 #[.int .i64 y, .int .i64 k] W fun e w' => e = .returned (.bool true) ∧ w' = W) := Lib.hid fun W => by have h := HHY.out k W; rw [hb1] at h; exact h
        obtain ⟨Yk, hYk⟩ : ∃ Yk, Yk = wQs ps (y, n) k * qOf ps k := ⟨_, rfl⟩
        have HS2 : Hid (wQs ps (y, n) (k + 1) = Yk * if n.testBit k = true then 1 - qOf ps k else 1) := Lib.hid (by
          rw [hYk]
          show (wQ (qOf ps) (y, n) k * (if y.testBit k = true then qOf ps k else 1)) * _ = _
          rw [if_pos hb1]
          rfl)
        have HYS : Hid ((canR Yk).Short (12 * k + 7)) := Lib.hid (by
          have h := short_mul (canR_ok (wQs ps (y, n) k)) (qOf_ok HOK.out hkl) HXS.out HQS.out (by omega) (by omega)
          rw [ratOf_can] at h
          rw [hYk]
          exact ⟨Nat.le_trans h.1 (by omega), Nat.le_trans h.2 (by omega)⟩)
        have HM1 : Hid (∀ W u1 u2, RatAt W u1 (canR (wQs ps (y, n) k)) → RatAt W u2 (ps.getD k default) → Calls Tryz.prog 176 #[u1, u2] W fun e w' => (∃ v', e = .returned v' ∧ RatAt w' v' (canR Yk)) ∧ Kept W w') := Lib.hid fun W u1 u2 h1 h2 => by
          have h := refmul02_any u1 u2 _ _ W h1 h2 ⟨Nat.le_trans HXS.out.1 (by omega), Nat.le_trans HXS.out.2 (by omega)⟩ ⟨Nat.le_trans HQS.out.1 (by omega), Nat.le_trans HQS.out.2 (by omega)⟩
          rw [ratOf_can] at h
          rw [hYk]
          exact h
        obtain ⟨a5, c5, a6, c6, ⟨x0, x1, x2⟩, ⟨f0, f1, f2⟩, hgl, hxa⟩ := HX5.out.at
        have HXA := Lib.hid hxa
        have q0 := HQ5.out.cell (i := 0) (by simp)
        have q1 := HQ5.out.cell (i := 1) (by simp)
        have q2 := HQ5.out.cell (i := 2) (by simp)
        simp only [List.getElem_cons_succ, List.getElem_cons_zero] at q0 q1 q2
        have HQR := Lib.hid (HQV.out w5 HK35.out)
        generalize (canR (wQs ps (y, n) k)).neg = z0 at *
        generalize (canR (wQs ps (y, n) k)).num.length = z1 at *
        generalize (canR (wQs ps (y, n) k)).den.length = z2 at *
        clear hb1 hYk hxa
        go_wp2_with (go_at_call 175; (with_reducible refine (HCH1.out _).mono ?_); rintro e w6 ⟨rfl, h6⟩; rw [h6, ← HW5.out]; clear h6)
        refine (HM1.out _ _ _ HXA.out HQR.out).mono ?_
        rintro e w6 ⟨⟨v6, rfl, hv6⟩, hk6⟩
        have HX6 := Lib.hid (HX5.out.kept hk6)
        have HK6 := Lib.hid (HK35.out.trans hk6)
        have HQ6 := Lib.hid (HQ5.out.kept hk6)
        have k06 := hk6.cell k05
        have k16 := hk6.cell k15
        have hn3 : ¬ w.heap.size = w3.heap.size := by omega
        obtain ⟨u7, u8, rfl, k7, k8⟩ := hv6
        obtain ⟨a7, c7, rfl⟩ := k7.shape
        obtain ⟨a8, c8, rfl⟩ := k8.shape
        obtain ⟨_, _, _, _, ⟨i0, i1, i2⟩, ⟨j0, j1, j2⟩, hgl6, _⟩ := HX6.out.at
        have HS := Lib.hid (HX6.out.store k7 k8)
        have HKS := Lib.hid (((HK6.out.store (Nat.le_refl _) 0 (.bool (canR Yk).neg)).store (Nat.le_refl _) 1 (.slice a7 (canR Yk).num.length c7)).store (Nat.le_refl _) 2 (.slice a8 (canR Yk).den.length c8))
        have HQS6 := Lib.hid ((OnlyAt.row ((((OnlyAt.refl w3.heap.size w6).store 0 (.bool (canR Yk).neg)).store 1 (.slice a7 (canR Yk).num.length c7)).store 2 (.slice a8 (canR Yk).den.length c8)) HQ6.out HNE.out))
        obtain ⟨w7, hw7⟩ : ∃ w7, w7 = ((w6.setCell ⟨w3.heap.size, 0, none⟩ (.bool (canR Yk).neg)).setCell ⟨w3.heap.size, 1, none⟩ (.slice a7 (canR Yk).num.length c7)).setCell ⟨w3.heap.size, 2, none⟩ (.slice a8 (canR Yk).den.length c8) := ⟨_, rfl⟩
        rw [← hw7] at HS HKS HQS6
        have HW7 := Lib.hid hw7
        have HXW := HS
        have HKX := HKS
        have HQW := HQS6
        generalize (canR Yk).neg = z6 at HW7 ⊢
        generalize (canR Yk).num.length = z7 at HW7 ⊢
        generalize (canR Yk).den.length = z8 at HW7 ⊢
        clear k7 k8 hk6 hw7 x0 x1 x2 f0 f1 f2 hgl q0 q1 q2
        go_wp2_with fail
        rw [← HW7.out]
        obtain ⟨a5, c5, a6, c6, ⟨x0, x1, x2⟩, ⟨f0, f1, f2⟩, hgl, hxa⟩ := HXW.out.at
        have HXA := Lib.hid hxa
        have q0 := HQW.out.cell (i := 0) (by simp)
        have q1 := HQW.out.cell (i := 1) (by simp)
        have q2 := HQW.out.cell (i := 2) (by simp)
        simp only [List.getElem_cons_succ, List.getElem_cons_zero] at q0 q1 q2
        have hql := HQW.out.lt
        have k1 := HKX.out.cell HC3.out.2
        have hcl := World.block_lt_of_cell? _ _ k1
        generalize (canR Yk).neg = z3 at *
        generalize (canR Yk).num.length = z4 at *
        generalize (canR Yk).den.length = z5 at *
        clear hxa
        cases hb2 : n.testBit k with
        | false =>
          have HCH2 : Hid (∀ W, Calls Tryz.prog 175 #[.int .i64 n, .int .i64 k] W fun e w' => e = .returned (.bool false) ∧ w' = W) := Lib.hid fun W => by have h := HHN.out k W; rw [hb2] at h; exact h
          have HE : Hid (canR (wQs ps (y, n) (k + 1)) = canR Yk) := Lib.hid (by rw [HS2.out, if_neg (by rw [hb2]; simp), Rat.mul_one])
          clear hb2
          refine (HCH2.out _).mono ?_
          rintro e w8 ⟨rfl, h8⟩
          rw [h8]
          clear h8
          go_wp2_with fail
          go_roundg (m - (k + 1))
          case measure => omega
          case rel => exact ⟨k + 1, by omega, by go_num, Nat.le_refl _, Lib.hid (by rw [HE.out]; exact HXW.out), HKX⟩
        | true =>
          have HCH2 : Hid (∀ W, Calls Tryz.prog 175 #[.int .i64 n, .int .i64 k] W fun e w' => e = .returned (.bool true) ∧ w' = W) := Lib.hid fun W => by have h := HHN.out k W; rw [hb2] at h; exact h
          have HE : Hid (canR (wQs ps (y, n) (k + 1)) = canR (ratOf (canR Yk) * ratOf (canR (1 - qOf ps k)))) := Lib.hid (by rw [HS2.out, if_pos hb2, ratOf_can, ratOf_can])
          have HM2 : Hid (∀ W u1 u2, RatAt W u1 (canR Yk) → RatAt W u2 (canR (1 - qOf ps k)) → Calls Tryz.prog 176 #[u1, u2] W fun e w' => (∃ v', e = .returned v' ∧ RatAt w' v' (canR (wQs ps (y, n) (k + 1)))) ∧ Kept W w') := Lib.hid fun W u1 u2 h1 h2 => by
            rw [HE.out]
            exact refmul02_any u1 u2 _ _ W h1 h2 ⟨Nat.le_trans HYS.out.1 (by omega), Nat.le_trans HYS.out.2 (by omega)⟩ ⟨Nat.le_trans HNS.out.1 (by omega), Nat.le_trans HNS.out.2 (by omega)⟩
          clear hb2
          have HQR : Hid (∀ W, Kept w7 W → RatAt W (.agg #[.bool qn, .slice a3 ql1 c3, .slice a4 ql2 c4]) (ps.getD k default)) := Lib.hid fun W h => HQV.out W (HKX.out.trans h)
          refine (HCH2.out _).mono ?_
          rintro e w8 ⟨rfl, h8⟩
          rw [h8]
          clear h8
          go_wp2_with fail
          go_region_with (first
            | (go_at_call 112; (with_reducible refine (HOF.out _).mono ?_); rintro e w8 ⟨⟨v8, rfl, hv8⟩, hk8⟩; have hkd := (Kept.refl w7).drew.trans hk8; have i0 := hkd.cell x0; have i1 := hkd.cell x1; have i2 := hkd.cell x2; have j0 := hkd.cell q0; have j1 := hkd.cell q1; have j2 := hkd.cell q2; have HX8 := Lib.hid (HXW.out.kept hkd); have HXA8 := Lib.hid (HXA.out.kept hkd); have HQ8 := Lib.hid (HQR.out _ hkd); have HK8 := Lib.hid (HKX.out.trans hkd); have HV8 := Lib.hid hv8; clear hk8 hkd hv8)
            | (go_at_call 113; (with_reducible refine (HSB.out _ _ _ HV8.out HQ8.out).mono ?_); rintro e w9 ⟨⟨v9, rfl, hv9⟩, hk9⟩; have l0 := hk9.cell i0; have l1 := hk9.cell i1; have l2 := hk9.cell i2; have HX9 := Lib.hid (HX8.out.kept hk9); have HXA9 := Lib.hid (HXA8.out.kept hk9); have HK9 := Lib.hid (HK8.out.trans hk9); have HV9 := Lib.hid hv9; clear hk9 hv9)
            | (go_at_call 176; (with_reducible refine (HM2.out _ _ _ HXA9.out HV9.out).mono ?_); rintro e w7 ⟨⟨v7, rfl, hv7⟩, hk7⟩; have HX7 := Lib.hid (HX9.out.kept hk7); have HK7 := Lib.hid (HK9.out.trans hk7); obtain ⟨u7, u8, rfl, k7, k8⟩ := hv7; obtain ⟨a7, c7, rfl⟩ := k7.shape; obtain ⟨a8, c8, rfl⟩ := k8.shape; have K7 := Lib.hid k7; have K8 := Lib.hid k8; obtain ⟨_, _, _, _, ⟨t0, t1, t2⟩, ⟨j0, j1, j2⟩, hgl6, _⟩ := HX7.out.at; clear k7 k8 hk7))
          all_goals
            have HS := Lib.hid (HX7.out.store K7.out K8.out)
            generalize (canR (wQs ps (y, n) (k + 1))).num.length = n7 at *
            generalize (canR (wQs ps (y, n) (k + 1))).den.length = n8 at *
            go_wp2_with fail
            go_roundg (m - (k + 1))
            case measure => omega
            case rel => exact ⟨k + 1, by omega, by go_num, Nat.le_refl _, HS, Lib.hid (((HK7.out.store (Nat.le_refl _) _ _).store (Nat.le_refl _) _ _).store (Nat.le_refl _) _ _)⟩
    · have hke : k = m := by omega
      have hkn : ¬ (k : Int) < (m : Int) := by omega
      have HX2 : Hid (RatCell wr w3.heap.size R) := Lib.hid (by rw [HRR.out, ← hke]; exact HX.out)
      have hrr := HR3.out.kept HKr.out
      have HFF := Lib.hid (HF3.out.kept HKr.out)
      obtain ⟨a5, c5, a6, c6, ⟨x0, x1, x2⟩, _, hgl, u7, u8, e9, k7, k8⟩ := HX2.out.at
      simp only [Value.agg.injEq] at e9
      have e9' := congrArg Array.toList e9
      simp at e9'
      obtain ⟨rfl, rfl⟩ := e9'
      obtain ⟨y0, y1, y2, hra⟩ := rat_stored hrr HFF.out k7 k8
      have g0 := hrr.cell (i := 0) (by simp)
      have g1 := hrr.cell (i := 1) (by simp)
      have g2 := hrr.cell (i := 2) (by simp)
      have f0 := hrr.free 0
      have f1 := hrr.free 1
      have f2 := hrr.free 2
      have hlt5 := hrr.lt
      have HRA := Lib.hid hra
      have Y0 := Lib.hid y0
      have Y1 := Lib.hid y1
      have Y2 := Lib.hid y2
      have HKw := Lib.hid (HK3.out.trans HKr.out)
      clear hra y0 y1 y2 k7 k8 hrr e9 hke
      generalize R.num.length = n7 at *
      generalize R.den.length = n8 at *
      go_wp2
      refine bodyPost_ret (v := .agg #[.bool R.neg, .slice a5 n7 c5, .slice a6 n8 c6]) ?_ rfl ⟨⟨_, rfl, HRA.out⟩, ?_⟩
      · simp [results, Tryz.results92, go_sem, Y0.out, Y1.out, Y2.out]
      · exact ((HKw.out.store (by omega) _ _).store (by omega) _ _).store (by omega) _ _
end Go.Proofs.YtbkchheikkbebaaGreatDoor

/-
  Walks: the reference's CheckList and Check of disjoint cubes.
-/
namespace Go.Proofs.YtbkchheikkbebaaGreatDoor
open Go.RowKit

set_option maxRecDepth 100000 in
theorem meets_any (y n y2 n2 : Nat) (hy : y < 16777216) (hn : n < 16777216) (hy2 : y2 < 16777216) (hn2 : n2 < 16777216) (w : World) : Calls Tryz.prog 95 #[.agg #[.int .i64 y, .int .i64 n], .agg #[.int .i64 y2, .int .i64 n2]] w fun e w' => e = .returned (.bool (meetC (y, n) (y2, n2))) ∧ Kept w w' := by
  have p1 := and_i64 y n2 (by omega) (by omega)
  have p2 := and_i64 n y2 (by omega) (by omega)
  have hm : meetC (y, n) (y2, n2) = ((y &&& n2 == 0) && (n &&& y2 == 0)) := rfl
  obtain ⟨t1, ht1⟩ : ∃ t1, t1 = y &&& n2 := ⟨_, rfl⟩
  obtain ⟨t2, ht2⟩ : ∃ t2, t2 = n &&& y2 := ⟨_, rfl⟩
  rw [← ht1] at p1 hm
  rw [← ht2] at p2 hm
  rw [hm]
  clear ht1 ht2 hm hy hn hy2 hn2
  by_cases c1 : t1 = 0
  · subst c1
    by_cases c2 : t2 = 0
    · subst c2
      go_enter Tryz.func95, Tryz.ntmps95
      go_wp2
      go_ret
      exact ⟨rfl, ((Kept.refl _).alloc _).alloc _⟩
    · have c2' : ¬ (t2 : Int) = 0 := by omega
      have c2'' : ((t2 : Int) == 0) = false := by simpa using c2'
      have c3 : (t2 == 0) = false := by simpa using c2
      rw [c3]
      go_enter Tryz.func95, Tryz.ntmps95
      go_wp2
      go_ret
      exact ⟨rfl, ((Kept.refl _).alloc _).alloc _⟩
  · have c1' : ¬ (t1 : Int) = 0 := by omega
    have c1'' : ((t1 : Int) == 0) = false := by simpa using c1'
    have c3 : (t1 == 0) = false := by simpa using c1
    rw [c3]
    go_enter Tryz.func95, Tryz.ntmps95
    go_wp2
    go_ret
    exact ⟨rfl, ((Kept.refl _).alloc _).alloc _⟩
/-- The number of CheckList's error. -/
def chkL (L : List (Int × Int)) : Nat := if 1024 < L.length then 4 else chkCs L
set_option maxRecDepth 100000 in
set_option maxHeartbeats 8000000 in
theorem chkl_any (v : Value) (L : List (Int × Int)) (w : World) (hv : CbsAt w v L) : Calls Tryz.prog 94 #[v] w fun e w' => e = .returned (.int .i64 (chkL L : Nat)) ∧ Kept w w' := by
  have HV := Lib.hid hv
  obtain ⟨a, c, rfl⟩ := hv.shape
  have hl := hv.len
  obtain ⟨n, hn⟩ : ∃ n, n = L.length := ⟨_, rfl⟩
  rw [← hn] at HV hl ⊢
  obtain ⟨q, hq⟩ : ∃ q, q = chkL L := ⟨_, rfl⟩
  rw [← hq]
  have HQ : Hid (q = if 1024 < n then 4 else chkCs L) := Lib.hid (by rw [hq, hn]; rfl)
  have HN := Lib.hid hn
  have HCC : Hid (∀ c : Int × Int, ∀ W, Calls Tryz.prog 178 #[.agg #[.int .i64 c.1, .int .i64 c.2]] W fun e w' => e = .returned (.int .i64 (chkCb c : Nat)) ∧ Kept W w') := Lib.hid fun c W => refcubchk_any c.1 c.2 W
  clear hv hq hn
  by_cases h9 : 1024 < n
  · have h9' : (1024 : Int) < (n : Int) := by omega
    have hq4 : q = 4 := by have h := HQ.out; rw [if_pos h9] at h; exact h
    subst hq4
    go_enter Tryz.func94, Tryz.ntmps94
    go_wp2
    go_ret
    exact ⟨rfl, Kept.refl _⟩
  · have h9' : ¬ (1024 : Int) < (n : Int) := by omega
    have HQ2 : Hid (q = chkCs L) := Lib.hid (by have h := HQ.out; rw [if_neg h9] at h; exact h)
    go_enter Tryz.func94, Tryz.ntmps94
    go_wp2_with fail
    go_loopg [3] n (fun kx s3 wr => ∃ k : Nat, k ≤ n ∧ s3 = .int .i64 k ∧ n - k ≤ kx ∧ Hid (∀ c ∈ L.take k, chkCb c = 0) ∧ Hid (Kept w wr))
    case atStart => exact ⟨0, Nat.zero_le _, rfl, by omega, Lib.hid (by simp), Lib.hid (Kept.refl _)⟩
    case round =>
      obtain ⟨k, hk, rfl, hkx, HF, HK⟩ := hrel
      by_cases hlt : k < n
      · have hkl : k < L.length := by have := HN.out; omega
        have hki : (k : Int) < (n : Int) := by omega
        obtain ⟨b, o, rfl, g1, g2⟩ := HV.out.get k hkl
        have x1 := HK.out.cell g1
        have x2 := HK.out.cell g2
        rw [← Nat.add_assoc] at x2
        obtain ⟨d, hd⟩ : ∃ d, d = L.getD k default := ⟨_, rfl⟩
        rw [← hd] at x1 x2
        have HD := Lib.hid hd
        have HCD := Lib.hid (HCC.out d)
        obtain ⟨z, hz⟩ : ∃ z, z = chkCb d := ⟨_, rfl⟩
        have HZ := Lib.hid hz
        rw [← hz] at HCD
        clear g1 g2 hd hz
        by_cases hz0 : z = 0
        · subst hz0
          obtain ⟨W1, rfl⟩ : ∃ W1 : World, W1 = wr := ⟨_, rfl⟩
          go_wp2_with (go_at_call 178; refine (HCD.out _).mono ?_; rintro e w2 ⟨rfl, hk2⟩; have HK2 := Lib.hid hk2; clear hk2)
          go_roundg (n - (k + 1))
          case measure => omega
          case rel =>
            refine ⟨k + 1, by omega, by go_num, Nat.le_refl _, Lib.hid fun c hc => ?_, Lib.hid (HK.out.trans HK2.out)⟩
            rw [List.take_succ_eq_append_getElem hkl] at hc
            rcases List.mem_append.1 hc with hc | hc
            · exact HF.out c hc
            · rw [List.mem_singleton] at hc
              have e : L.getD k default = L[k] := by simp [List.getD_eq_getElem?_getD, hkl]
              rw [hc, ← e, ← HD.out, ← HZ.out]
        · have hz1 : ((z : Int) != 0) = true := by simp; omega
          have hz2 : ¬ (z : Int) = 0 := by omega
          have HR : Hid (q = z) := Lib.hid (by
            have h := HQ2.out
            have e := chkCs_at hkl HF.out (by rw [← HD.out, ← HZ.out]; exact hz0)
            rw [← HD.out, ← HZ.out] at e
            rw [e] at h
            exact h)
          obtain ⟨W1, rfl⟩ : ∃ W1 : World, W1 = wr := ⟨_, rfl⟩
          go_wp2_with (go_at_call 178; refine (HCD.out _).mono ?_; rintro e w2 ⟨rfl, hk2⟩; have HK2 := Lib.hid hk2; clear hk2)
          go_ret
          exact ⟨by rw [HR.out]; rfl, HK.out.trans HK2.out⟩
      · have hki : ¬ (k : Int) < (n : Int) := by omega
        have HR : Hid (q = 0) := Lib.hid (by
          have h := HQ2.out
          rw [chkCs_ok (L := L) (fun c hc => HF.out c (by rw [List.take_of_length_le (by have := HN.out; omega)]; exact hc))] at h
          exact h)
        go_wp2
        go_ret
        exact ⟨by rw [HR.out]; rfl, HK.out⟩
theorem chkD_L (L : List (Int × Int)) : chkD L = if chkL L ≠ 0 then chkL L else if metT L L.length = true then 21 else 0 := by
  unfold chkD chkL
  split
  · rw [if_pos (by decide)]
  · rfl
set_option maxRecDepth 100000 in
set_option maxHeartbeats 8000000 in
theorem rdcheck_any (v : Value) (L : List (Int × Int)) (w : World) (hv : CbsAt w v L) : Calls Tryz.prog 31 #[v] w fun e w' => e = .returned (.int .i64 (chkD L : Nat)) ∧ Kept w w' := by
  have HV := Lib.hid hv
  have HCL := Lib.hid (chkl_any v L w hv)
  obtain ⟨a, c, rfl⟩ := hv.shape
  have hl := hv.len
  obtain ⟨n, hn⟩ : ∃ n, n = L.length := ⟨_, rfl⟩
  rw [← hn] at HV HCL hl ⊢
  obtain ⟨q, hq⟩ : ∃ q, q = chkD L := ⟨_, rfl⟩
  rw [← hq]
  obtain ⟨q1, hq1⟩ : ∃ q1, q1 = chkL L := ⟨_, rfl⟩
  have HQ : Hid (q = if q1 ≠ 0 then q1 else if metT L n = true then 21 else 0) := Lib.hid (by rw [hq, chkD_L, hn, hq1])
  rw [← hq1] at HCL
  have HQ1 := Lib.hid hq1
  have HN := Lib.hid hn
  have hcn : ¬ (c : Int) < (n : Int) := by
    obtain ⟨_, _, he, ⟨h2, _⟩, _⟩ := hv
    injection he with _ h3 h4
    omega
  have HCN : Hid (n ≤ c) := Lib.hid (by omega)
  clear hv hq hn hq1 hcn
  by_cases h9 : q1 = 0
  · subst h9
    have HF : Hid (∀ c ∈ L, chkCb c = 0) := Lib.hid (by
      have h := HQ1.out
      unfold chkL at h
      split at h
      · cases h
      · exact chkCs_zero h.symm)
    have HA : Hid (∀ i, i < n → ∃ Y N : Nat, L.getD i default = ((Y : Int), (N : Int)) ∧ Y < 16777216 ∧ N < 16777216) := Lib.hid fun i hi => by
      have hil : i < L.length := by have := HN.out; omega
      have e : L.getD i default = L[i] := by simp [List.getD_eq_getElem?_getD, hil]
      have h0 := HF.out L[i] (List.getElem_mem hil)
      obtain ⟨⟨h1, h2, _⟩, h4⟩ := chkCb_zero h0
      exact ⟨_, _, by rw [e]; exact h4, h1, h2⟩
    have HQ3 : Hid (q = if metT L n = true then 21 else 0) := Lib.hid (by have h := HQ.out; rw [if_neg (by simp)] at h; exact h)
    have HME := Lib.hid meets_any
    go_enter Tryz.func31, Tryz.ntmps31
    go_wp2_with fail
    refine HCL.out.mono ?_
    rintro e w1 ⟨rfl, hk1⟩
    have HK1 := Lib.hid hk1
    clear hk1
    go_wp2_with fail
    go_loopg [15] n (fun ix s15 wi => ∃ i : Nat, i ≤ n ∧ s15 = .int .i64 i ∧ n - i ≤ ix ∧ Hid (metT L i = false) ∧ Hid (Kept w wi))
    case atStart => exact ⟨0, Nat.zero_le _, rfl, by omega, Lib.hid rfl, HK1⟩
    case round =>
      obtain ⟨i, hi, rfl, hix, HM, HKI⟩ := hrel
      by_cases hil : i < n
      · have hii : (i : Int) < (n : Int) := by omega
        have hilen : i < L.length := by have := HN.out; omega
        obtain ⟨Y, N, e1, hY, hN⟩ := HA.out i hil
        obtain ⟨b, o, rfl, g1, g2⟩ := HV.out.get i hilen
        rw [e1] at g1 g2
        have x1 := HKI.out.cell g1
        have x2 := HKI.out.cell g2
        rw [← Nat.add_assoc] at x2
        have HE := Lib.hid e1
        have hic : ¬ (c : Int) < (i : Int) := by have := HCN.out; omega
        have hic2 : (i : Int) ≤ (c : Int) := by have := HCN.out; omega
        have hi0 : ¬ (i : Int) < 0 := by omega
        have HYN := Lib.hid (And.intro hY hN)
        clear g1 g2 e1 hY hN
        go_wp2_with fail
        obtain ⟨wo, rfl⟩ : ∃ wo : World, wo = wr := ⟨_, rfl⟩
        obtain ⟨w5, hw5⟩ : ∃ w5, w5 = wo.alloc (.cells #[.int .i64 Y, .int .i64 N] 55) := ⟨_, rfl⟩
        have hr5 := RowAt.made wo #[.int .i64 (Y : Int), .int .i64 (N : Int)] 55
        have HK5 : Hid (Kept wo w5) := Lib.hid (by rw [hw5]; exact (Kept.refl wo).alloc _)
        rw [← hw5] at hr5 ⊢
        have HR5 := Lib.hid hr5
        clear hw5 hr5
        go_loopg [24] i (fun jx s24 W => ∃ j : Nat, j ≤ i ∧ s24 = .int .i64 j ∧ i - j ≤ jx ∧ Hid (metC L i j = false) ∧ Hid (Kept w5 W))
        case atStart => exact ⟨0, Nat.zero_le _, rfl, by omega, Lib.hid rfl, Lib.hid (Kept.refl _)⟩
        case round =>
          obtain ⟨j, hj, rfl, hjx, HMJ, HKJ⟩ := hrel
          by_cases hjl : j < i
          · have hji : (j : Int) < (i : Int) := by omega
            have hjlen : j < L.length := by omega
            obtain ⟨Y2, N2, f1, hY2, hN2⟩ := HA.out j (by omega)
            obtain ⟨b', o', he', k1, k2⟩ := HV.out.get j hjlen
            cases he'
            rw [f1] at k1 k2
            have HKK := Lib.hid (HKI.out.trans (HK5.out.trans HKJ.out))
            have z1 := HKK.out.cell k1
            have z2 := HKK.out.cell k2
            rw [← Nat.add_assoc] at z2
            have y1 := (HR5.out.kept HKJ.out).cell (i := 0) (by simp)
            have y2 := (HR5.out.kept HKJ.out).cell (i := 1) (by simp)
            simp only [List.getElem_cons_succ, List.getElem_cons_zero] at y1 y2
            have hlt5 := (HR5.out.kept HKJ.out).lt
            have HMC := Lib.hid (fun W => HME.out Y N Y2 N2 HYN.out.1 HYN.out.2 hY2 hN2 W)
            have HST : Hid (metC L i (j + 1) = meetC (Y, N) (Y2, N2)) := Lib.hid (by
              rw [metC_succ, HMJ.out, HE.out, f1]; rfl)
            clear k1 k2 f1 hY2 hN2
            obtain ⟨W1, rfl⟩ : ∃ W1 : World, W1 = wr := ⟨_, rfl⟩
            cases hb : meetC (Y, N) (Y2, N2) with
            | true =>
              rw [hb] at HMC HST
              have HR : Hid (q = 21) := Lib.hid (by
                have h := HQ3.out
                rw [if_pos] at h
                · exact h
                · unfold metT
                  rw [List.any_eq_true]
                  refine ⟨i, by simpa using hil, ?_⟩
                  have h2 := HST.out
                  unfold metC at h2 ⊢
                  obtain ⟨m, hm, h3⟩ := List.any_eq_true.1 h2
                  exact List.any_eq_true.2 ⟨m, by simp at hm ⊢; omega, h3⟩)
              clear hb
              go_wp2_with (go_at_call 95; refine (HMC.out _).mono ?_; rintro e w6 ⟨rfl, hk6⟩; have HK6 := Lib.hid (((Kept.refl W1).alloc _).trans hk6); clear hk6)
              go_ret
              exact ⟨by rw [HR.out]; rfl, HKK.out.trans HK6.out⟩
            | false =>
              rw [hb] at HMC HST
              clear hb
              go_wp2_with (go_at_call 95; refine (HMC.out _).mono ?_; rintro e w6 ⟨rfl, hk6⟩; have HK6 := Lib.hid (((Kept.refl W1).alloc _).trans hk6); clear hk6)
              go_roundg (i - (j + 1))
              case measure => omega
              case rel => exact ⟨j + 1, by omega, by go_num, Nat.le_refl _, HST, Lib.hid (HKJ.out.trans HK6.out)⟩
          · have hji : ¬ (j : Int) < (i : Int) := by omega
            have HMI : Hid (metT L (i + 1) = false) := Lib.hid (by
              have hje : j = i := by omega
              rw [hje] at HMJ
              rw [metT_succ, HM.out, HMJ.out]; rfl)
            go_wp2
            go_roundg (n - (i + 1))
            case measure => omega
            case rel => exact ⟨i + 1, by omega, by go_num, Nat.le_refl _, HMI, Lib.hid (HKI.out.trans (HK5.out.trans HKJ.out))⟩
      · have hii : ¬ (i : Int) < (n : Int) := by omega
        have HR : Hid (q = 0) := Lib.hid (by
          have hie : i = n := by omega
          have h := HQ3.out
          rw [← hie, HM.out, if_neg (by simp)] at h
          exact h)
        go_wp2
        go_ret
        exact ⟨by rw [HR.out]; rfl, HKI.out⟩
  · have h9' : ((q1 : Int) != 0) = true := by simp; omega
    have h9'' : ¬ (q1 : Int) = 0 := by omega
    have HR : Hid (q = q1) := Lib.hid (by have h := HQ.out; rw [if_pos h9] at h; exact h)
    go_enter Tryz.func31, Tryz.ntmps31
    go_wp2_with fail
    refine HCL.out.mono ?_
    rintro e w1 ⟨rfl, hk1⟩
    go_wp2
    go_ret
    exact ⟨by rw [HR.out]; rfl, hk1⟩
end Go.Proofs.YtbkchheikkbebaaGreatDoor

/-
  Walks: disjoint.less and the reference's less.
-/
namespace Go.Proofs.YtbkchheikkbebaaGreatDoor
open Go.RowKit

/-- The events of a cube behind some steps. -/
def lessY (y : Nat) (is : List Nat) : Nat := is.foldl (fun y i => y ||| 2 ^ i) y
theorem lessY_bit (j : Nat) : ∀ (is : List Nat) (y : Nat), (lessY y is).testBit j = (y.testBit j || decide (j ∈ is)) := by
  intro is
  induction is with
  | nil => intro y; simp [lessY]
  | cons i is ih =>
    intro y
    show (lessY (y ||| 2 ^ i) is).testBit j = _
    rw [ih, Nat.testBit_or, Nat.testBit_two_pow]
    by_cases h : i = j
    · subst h; simp
    · have : (j = i) = False := by simp; omega
      simp [h, this]
theorem lessY_snoc (y i : Nat) (is : List Nat) : lessY y (is ++ [i]) = lessY y is ||| 2 ^ i := by unfold lessY; rw [List.foldl_append]; rfl
theorem lessL_snoc (n i : Nat) : ∀ (is : List Nat) (y : Nat), lessL y n (is ++ [i]) = lessL y n is ++ [(lessY y is, n ||| 2 ^ i)] := by
  intro is
  induction is with
  | nil => intro y; rfl
  | cons j is ih =>
    intro y
    rw [List.cons_append, lessL, ih, lessL]
    rfl
theorem lessY_lt {y : Nat} {is : List Nat} (hy : y < 16777216) (hi : ∀ i ∈ is, i < 24) : lessY y is < 16777216 := by
  refine lt_24 fun j hj => ?_
  rw [lessY_bit, Bool.or_eq_true, decide_eq_true_eq] at hj
  rcases hj with h | h
  · exact bit_24 hy h
  · exact hi j h
theorem lessL_len (n : Nat) : ∀ (is : List Nat) (y : Nat), (lessL y n is).length = is.length := by
  intro is
  induction is with
  | nil => intro y; rfl
  | cons j is ih => intro y; rw [lessL, List.length_cons, List.length_cons, ih]
theorem or_lt24 {a b : Nat} (ha : a < 16777216) (hb : b < 16777216) : a ||| b < 16777216 := by
  have := Nat.or_lt_two_pow (n := 24) (x := a) (y := b) ha hb
  exact this
/-- What the loop's round at k does. -/
theorem less_step {y n s k : Nat} (hy : y < 16777216) (hk : k < 24) :
    let is := (List.range k).filter fun i => (sdiff s y).testBit i
    let is' := (List.range (k + 1)).filter fun i => (sdiff s y).testBit i
    (sdiff s (lessY y is)).testBit k = (sdiff s y).testBit k ∧ lessY y is < 16777216 ∧ is.length ≤ k ∧
      ((sdiff s y).testBit k = false → is' = is) ∧ ((sdiff s y).testBit k = true → lessL y n is' = lessL y n is ++ [(lessY y is, n ||| 2 ^ k)] ∧ lessY y is' = lessY y is ||| 2 ^ k) := by
  intro is is'
  have hst : is' = is ++ (if (sdiff s y).testBit k then [k] else []) := elems_step (sdiff s y) k
  refine ⟨?_, lessY_lt hy fun i hi => ?_, elems_len _ _, fun h => ?_, fun h => ?_⟩
  · have hnk : ¬ k ∈ is := fun h => by
      have := (List.mem_filter.1 h).1
      simp at this
    rw [sdiff_bit, sdiff_bit, lessY_bit]
    simp [hnk]
  · have := (List.mem_filter.1 hi).1
    have : i < k := by simpa using this
    omega
  · rw [hst, h]; simp
  · rw [hst, h]
    exact ⟨lessL_snoc n k is y, lessY_snoc y k is⟩
theorem ofCs_one (l : List (Nat × Nat)) (y n : Nat) : ofCs (l ++ [(y, n)]) = ofCs l ++ [((y : Int), (n : Int))] := by rw [ofCs_app]; rfl
theorem lessK_no {y n s : Nat} (h : s &&& n ≠ 0) : lessK (y, n) s = [(y, n)] := by unfold lessK; rw [if_pos h]
theorem lessK_yes {y n s : Nat} (h : s &&& n = 0) : lessK (y, n) s = lessL y n ((List.range 24).filter fun i => (sdiff s y).testBit i) := by unfold lessK; rw [if_neg (by simpa using h)]; rfl
theorem sd_lt24 {s y : Nat} (hs : s < 16777216) : sdiff s y < 16777216 := lt_24 fun j hj => by
  rw [sdiff_bit, Bool.and_eq_true] at hj
  exact bit_24 hs hj.1
theorem has_sd (s y k : Nat) (hs : s < 16777216) (W : World) (b : Bool) (hb : (sdiff s y).testBit k = b) : Calls Tryz.prog 200 #[.int .i64 (sdiff s y : Nat), .int .i64 k] W fun e w' => e = .returned (.bool b) ∧ w' = W := by
  have h := hasS_any (sdiff s y) k (sd_lt24 hs) W
  rw [hb] at h
  exact h
set_option maxRecDepth 100000 in
set_option maxHeartbeats 4000000 in
theorem less_any (y n s : Nat) (hy : y < 16777216) (hn : n < 16777216) (hs : s < 16777216) (w : World) :
    Calls Tryz.prog 160 #[.agg #[.int .i64 y, .int .i64 n], .int .i64 s] w fun e w' => (∃ v, e = .returned v ∧ CbsAt w' v (ofCs (lessK (y, n) s))) ∧ Kept w w' := by
  have hn63 : n < 9223372036854775808 := Nat.lt_trans hn (by decide)
  obtain ⟨z, hz⟩ : ∃ z, z = s &&& n := ⟨_, rfl⟩
  have pz := and_i64 s n (by omega) (by omega)
  rw [← hz] at pz
  by_cases h0 : z = 0
  · subst h0
    rw [lessK_yes hz.symm]
    have HST := Lib.hid fun k (hk : k < 24) => less_step (n := n) (s := s) hy hk
    have HSD := Lib.hid fun (x : Nat) (h : x < 16777216) => andNot_i64 s x (by omega) (by omega)
    have HHA := Lib.hid fun (x k : Nat) W b hb => has_sd s x k hs W b hb
    obtain ⟨w1, hw1⟩ : ∃ w1, w1 = w.alloc (.cells #[.int .i64 y, .int .i64 n] 55) := ⟨_, rfl⟩
    have HR1 : Hid (RowAt w1 w.heap.size 55 [.int .i64 y, .int .i64 n]) := Lib.hid (by rw [hw1]; exact RowAt.made w #[.int .i64 y, .int .i64 n] 55)
    have HK1 : Hid (Kept w w1) := Lib.hid (by rw [hw1]; exact (Kept.refl w).alloc _)
    have HS1 : Hid (w1.heap.size = w.heap.size + 1) := Lib.hid (by rw [hw1]; simp)
    have HW1 := Lib.hid hw1
    have b1 := HR1.out.cell (i := 1) (by simp)
    simp only [List.getElem_cons_succ, List.getElem_cons_zero] at b1
    clear hz hw1 hs
    go_enter Tryz.func160, Tryz.ntmps160
    go_wp2_with fail
    rw [← HW1.out]
    go_loopg [5, 15] 24 (fun kx s5 s15 wr => ∃ k : Nat, k ≤ 24 ∧ s15 = .int .i64 k ∧ 24 - k ≤ kx ∧ Hid (OwnCbs wr w1.heap.size s5 (ofCs (lessL y n ((List.range k).filter fun i => (sdiff s y).testBit i)))) ∧ Hid (RowAt wr w.heap.size 55 [.int .i64 (lessY y ((List.range k).filter fun i => (sdiff s y).testBit i) : Nat), .int .i64 n]) ∧ Hid (Kept w wr) ∧ Hid (w1.heap.size ≤ wr.heap.size))
    case atStart => exact ⟨0, Nat.zero_le _, rfl, by omega, Lib.hid (OwnCbs.nil _ _), HR1, HK1, Lib.hid (Nat.le_refl _)⟩
    case round =>
      obtain ⟨k, hk, rfl, hkx, HO, HR, HK, HSZ⟩ := hrel
      obtain ⟨a5, c5, e5⟩ := HO.out.at.shape
      by_cases hlt : k < 24
      · have hkn : (k : Int) < 24 := by omega
        obtain ⟨f1, f2, f3, f4, f5⟩ := HST.out k hlt
        obtain ⟨is, his⟩ : ∃ is, is = (List.range k).filter fun i => (sdiff s y).testBit i := ⟨_, rfl⟩
        obtain ⟨is', his'⟩ : ∃ is', is' = (List.range (k + 1)).filter fun i => (sdiff s y).testBit i := ⟨_, rfl⟩
        rw [← his] at HO HR f1 f2 f3 f4 f5 e5
        rw [← his'] at f4 f5
        rw [ofCs_len, lessL_len] at e5
        have HIS' := Lib.hid his'
        obtain ⟨yk, hyk⟩ : ∃ yk, yk = lessY y is := ⟨_, rfl⟩
        rw [← hyk] at HR f1 f2 f5
        have HYK := Lib.hid hyk
        have hy63 : yk < 9223372036854775808 := Nat.lt_trans f2 (by decide)
        have p1 := HSD.out yk f2
        obtain ⟨z, hz⟩ : ∃ z, z = sdiff s yk := ⟨_, rfl⟩
        have HHZ := Lib.hid fun W b hb => HHA.out yk k W b hb
        rw [← hz] at p1 f1 HHZ
        have y0 := HR.out.cell (i := 0) (by simp)
        have y1 := HR.out.cell (i := 1) (by simp)
        simp only [List.getElem_cons_succ, List.getElem_cons_zero] at y0 y1
        have g0 := HR.out.free 0
        clear hz his his' hyk
        cases hb : (sdiff s y).testBit k with
        | false =>
          have HC := Lib.hid fun W => HHZ.out W false (by rw [f1, hb])
          have HIE := Lib.hid (f4 hb)
          clear hb f1 f2 f3 f4 f5
          subst e5
          go_wp2_with (go_at_call 200; refine (HC.out _).mono ?_; rintro e w2 ⟨rfl, rfl⟩)
          go_roundg (24 - (k + 1))
          case measure => omega
          case rel => exact ⟨k + 1, by omega, by go_num, Nat.le_refl _, Lib.hid (by rw [← HIS'.out, HIE.out]; exact HO.out), Lib.hid (by rw [← HIS'.out, HIE.out, ← HYK.out]; exact HR.out), HK, HSZ⟩
        | true =>
          have HC := Lib.hid fun W => HHZ.out W true (by rw [f1, hb])
          have HIE := Lib.hid (f5 hb)
          have p2 := pow_i64 k (by omega)
          have hp := pow_lt24 (show k < 24 by omega)
          obtain ⟨pk, hpk⟩ : ∃ pk, pk = 2 ^ k := ⟨_, rfl⟩
          rw [← hpk] at p2 hp HIE
          clear hb f1 f2 f4 f5
          have hp63 : pk < 9223372036854775808 := Nat.lt_trans hp (by decide)
          have p3 := or_i64 n pk hn63 hp63
          have p4 := or_i64 yk pk hy63 hp63
          obtain ⟨nk, hnk⟩ : ∃ nk, nk = n ||| pk := ⟨_, rfl⟩
          obtain ⟨yk', hyk'⟩ : ∃ yk', yk' = yk ||| pk := ⟨_, rfl⟩
          rw [← hnk] at p3 HIE
          rw [← hyk'] at p4 HIE
          have HLN := Lib.hid f3
          clear f3 hpk hnk hyk' hp hp63 hy63
          subst e5
          go_wp2_with (go_at_call 200; refine (HC.out _).mono ?_; rintro e w2 ⟨rfl, rfl⟩)
          go_region
          all_goals
            go_wp2_with (at_builtin; refine app_cb rfl _ _ rfl w1.heap.size _ (ofCs (lessL y n is)) rfl (HO.out.kept ?k1) _ ((yk : Int), (nk : Int)) rfl ?k2 ?k3 ?k4 ?_)
            case k1 => exact (((Kept.refl _).alloc _).alloc _).drew
            case k2 =>
              have h := rangeC_kept (range_two (w2.alloc (.cells #[.int .i64 yk, .int .i64 nk] 55)) (.int .i64 yk) (.int .i64 nk) 55) ((Kept.refl _).drew)
              simpa [ccells] using h
            case k3 => rw [ofCs_len, lessL_len]; have := HLN.out; omega
            case k4 => have := HSZ.out; simp; omega
            intro v' w' h5 _ h6
            have H5 := Lib.hid h5
            have H6 := Lib.hid h6
            have hr6 := (HR.out.kept ((((Kept.refl w2).alloc (.cells #[.int .i64 yk, .int .i64 nk] 55)).alloc (.cells #[.int .i64 yk, .int .i64 nk] 55)).drew)).same (h6.block w.heap.size (by rw [HS1.out]; omega))
            have HR6 := Lib.hid hr6
            have z0 := hr6.cell (i := 0) (by simp)
            have z1 := hr6.cell (i := 1) (by simp)
            simp only [List.getElem_cons_succ, List.getElem_cons_zero] at z0 z1
            have t0 := hr6.free 0
            obtain ⟨a6, c6, rfl⟩ := h5.at.shape
            clear h5 h6 hr6
            go_wp2
            go_region
            all_goals
              go_wp2_with fail
              go_roundg (24 - (k + 1))
              case measure => omega
              case rel =>
                refine ⟨k + 1, by omega, by go_num, Nat.le_refl _, Lib.hid ?_, Lib.hid ?_, Lib.hid ?_, Lib.hid ?_⟩
                · rw [← HIS'.out, HIE.out.1, ofCs_one]
                  exact H5.out.older (g := w.heap.size) (by rw [HS1.out]; omega) (by first | exact (OnlyAt.refl _ _).store _ _ | exact ((OnlyAt.refl _ _).store _ _).trans (OnlyAt.kept (Kept.refl _).drew))
                · rw [← HIS'.out, HIE.out.2]
                  first
                    | exact HR6.out.store 0 _
                    | exact (HR6.out.kept ((Kept.refl _).drew)).store 0 _
                    | exact (HR6.out.store 0 _).kept ((Kept.refl _).drew)
                · have hk := ((HK.out.alloc (.cells #[.int .i64 yk, .int .i64 nk] 55)).alloc (.cells #[.int .i64 yk, .int .i64 nk] 55)).drew
                  have hk6 : Kept w w' := Below.trans hk (H6.out.mono (by rw [HS1.out]; omega))
                  first
                    | exact hk6.store (Nat.le_refl _) _ _
                    | exact hk6.drew.store (Nat.le_refl _) _ _
                    | exact (hk6.store (Nat.le_refl _) _ _).drew
                · have hz := H6.out.size
                  have := HSZ.out
                  simp at hz ⊢
                  omega
      · have hke : k = 24 := by omega
        have hkn : ¬ (k : Int) < 24 := by omega
        have HE := HO.out.at
        rw [hke] at HE
        have HE := Lib.hid HE
        subst e5
        clear hke
        go_wp2
        go_ret
        exact ⟨⟨_, rfl, HE.out⟩, HK.out⟩
  · have hn0 : ¬ (z : Int) = 0 := by omega
    rw [lessK_no (by rw [← hz]; exact h0)]
    clear hz h0
    go_enter Tryz.func160, Tryz.ntmps160
    go_wp2
    go_ret
    refine ⟨⟨_, rfl, ?_⟩, ((Kept.refl _).alloc _).alloc _⟩
    have h := (own_cube (w.alloc (.cells #[.int .i64 y, .int .i64 n] 55)) 0 ((y : Int), (n : Int)) (Nat.zero_le _)).at
    simpa [ofCs, ofC] using h
end Go.Proofs.YtbkchheikkbebaaGreatDoor
