import Derived.WalkKit
import Derived.WalkSpells
import Derived.WalkLawsBesides
import Derived.Deep.QuietTactic
import Derived.BigQuiet
import Derived.Lib.Hide
import Derived.Shelf.Abstract
import Derived.Deep.RegionWith
import Derived.Laws.AppendOwnNone
import Derived.Lib.AppendZerosOnto
import Derived.Lib.SliceRun
import Derived.Lib.SlicesCompact
import Derived.Shelf.SlSortCmp.NoneTotal
import Derived.Maps.OwnOps
import Derived.Maps.OwnSet
import Derived.Maps.Views
import Derived.Deep.MidRow
import Derived.Deep.RegionHeld3
import Derived.Deep.AppendLies
import Derived.Deep.RegionLaw
import Derived.IntWalk
import Derived.StillTailTactics
import Derived.ProofKit
import Derived.OpenShut
import Derived.SizedLaws
import Derived.Lib.SmallJoins
import Derived.Deep.Slices
import Derived.Deep.Fields
import Derived.Deep.Strs
import Derived.Carry
import Derived.Deep.DeepCutAuto
import Derived.BigRegion
import Derived.ChangeAlike
import Derived.Deep.LoopGhost
import Derived.Lib.ItoaNum
import Derived.RegionTactic
import Derived.Shelf.SlSortCmp.PdqK
import Derived.Sort.LotA
import Derived.Sort.LotD2
import Derived.Lib.BitFns
import Derived.Deep.CutBlock
import Derived.Test.YtpaedhlacbpmpaaGreatDoorPX4
import Derived.Maps.RangeWalk
import Derived.Test.YtpaedhlacbpmpaaGreatDoorPX1
import Derived.Test.YtpaedhlacbpmpaaGreatDoorPX3
import Derived.Shelf.SlSortCmp.WholeK
/-
  Lists of terms of the call's own: append of one, of many. Printed by gen_PB1.py.
-/
namespace Go.Proofs.YtpaedhlacbpmpaaGreatDoor
open Go.RowKit

/-- A fraction with the slices of its words. -/
abbrev TrV := Trm × Value × Value
def trC (x : TrV) : List Value := [.int .i64 x.1.1, .bool x.1.2.neg, x.2.1, x.2.2]
def TrOkV (w : World) (x : TrV) : Prop := WdsAt w x.2.1 x.1.2.num ∧ WdsAt w x.2.2 x.1.2.den
theorem TrOkV.kept {w w' : World} {x : TrV} (h : TrOkV w x) (hk : Kept w w') : TrOkV w' x := ⟨h.1.kept hk, h.2.kept hk⟩
theorem TrOkV.only {w w' : World} {g : Option Nat} {x : TrV} (h : TrOkV w x) (hr : ∀ k, g = some k → NoW w k) (ho : ∀ k, k < w.heap.size → some k ≠ g → w'.heap[k]? = w.heap[k]?) : TrOkV w' x := ⟨h.1.only hr ho, h.2.only hr ho⟩
/-- Fractions of the call's own, in a slice. -/
def OwnTrms (w : World) (B : Nat) (v : Value) (rs : List Trm) : Prop :=
  ∃ L : List TrV, L.map Prod.fst = rs ∧ w.ownsRow B 83 4 v L.length (L.flatMap trC) ∧ L.length ≤ 1099511627776 ∧ (∀ g, v.ownBlock = some g → NoW w g) ∧ ∀ x ∈ L, TrOkV w x
theorem OwnTrms.kept {w w' : World} {B : Nat} {v : Value} {rs : List Trm} (h : OwnTrms w B v rs) (hk : Kept w w') : OwnTrms w' B v rs := by
  obtain ⟨L, h1, h2, h3, h4, h5⟩ := h
  exact ⟨L, h1, own_kept h2 hk, h3, noW_kept h2 h4 hk, fun x hx => (h5 x hx).kept hk⟩
theorem OwnTrms.nil (w : World) (B : Nat) : OwnTrms w B (.slice none 0 0) [] := ⟨[], rfl, World.ownsRow_nil _ _ _ _, by simp, fun g hg => by simp [Value.ownBlock] at hg, fun x hx => by cases hx⟩
theorem len_tr (L : List TrV) : (L.flatMap trC).length = L.length * 4 := by
  induction L with
  | nil => rfl
  | cons c L ih => simp [trC, ih]; omega
theorem tr_get (L : List TrV) : ∀ i (h : i < L.length) j, j < 4 → (L.flatMap trC)[i * 4 + j]? = (trC L[i])[j]? := by
  induction L with
  | nil => intro i h; simp at h
  | cons c L ih =>
    intro i h j hj
    rw [List.flatMap_cons]
    cases i with
    | zero => rw [List.getElem?_append_left (by simp [trC]; omega)]; simp
    | succ i =>
      rw [List.getElem?_append_right (by simp [trC]; omega), show (trC c).length = 4 from rfl, show (i + 1) * 4 + j - 4 = i * 4 + j by omega]
      exact ih i (by simpa using h) j hj
theorem tr_one {w : World} {L : List TrV} (h : ∀ x ∈ L, TrOkV w x) : ∀ u ∈ L.flatMap trC, u.oneCell' = true ∧ NotW u := fun u hu => by
  obtain ⟨c, hc, h2⟩ := List.mem_flatMap.1 hu
  simp [trC] at h2
  rcases h2 with rfl | rfl | rfl | rfl
  · exact ⟨rfl, fun x h => by cases h⟩
  · exact ⟨rfl, fun x h => by cases h⟩
  · exact (h c hc).1.cell1
  · exact (h c hc).2.cell1
theorem OwnTrms.at {w : World} {B : Nat} {v : Value} {rs : List Trm} (h : OwnTrms w B v rs) : TrmsAt w v rs := by
  obtain ⟨L, rfl, ⟨h1, h2⟩, h3, _, h5⟩ := h
  have hl : (L.map Prod.fst).length = L.length := List.length_map ..
  rcases h2 with ⟨rfl, h6⟩ | ⟨g, cap, cur, rfl, h6, h7, h8, h9, h10, h11⟩
  · have : L = [] := List.eq_nil_of_length_eq_zero h6
    subst this
    exact ⟨none, 0, rfl, ⟨by simp, fun _ => rfl⟩, by simp, fun i h => by simp at h⟩
  · refine ⟨some ⟨g, 0, none⟩, cap, by rw [hl], ⟨by rw [hl]; exact h8, fun h => by cases h⟩, by rw [hl]; omega, fun i hi => ?_⟩
    have hi' : i < L.length := by rw [hl] at hi; exact hi
    refine ⟨g, 0, L[i].2.1, L[i].2.2, rfl, fun j u hj => ?_, by rw [List.getElem_map]; exact (h5 _ (List.getElem_mem hi')).1, by rw [List.getElem_map]; exact (h5 _ (List.getElem_mem hi')).2⟩
    rw [List.getElem_map] at hj
    have hj4 : j < 4 := by
      have := (List.getElem?_eq_some_iff.1 hj).1
      simpa using this
    have e1 : (cur.toList.take (L.length * 4))[i * 4 + j]? = (L.flatMap trC)[i * 4 + j]? := by rw [h11]
    rw [List.getElem?_take_of_lt (by omega), tr_get L i hi' j hj4] at e1
    have e2 : (trC L[i])[j]? = some u := hj
    rw [e2] at e1
    simp only [World.cell?, h7, Nat.zero_add]
    simpa using e1
theorem info_trm : (Tryz.prog.info? 83).map (fun i => (i.zero, i.size, i.bytes)) = some (some (.agg #[.int .i64 0, .bool false, .slice none 0 0, .slice none 0 0]), 4, 64) := by kernel_rfl
theorem zero_trm : ∀ u ∈ (Value.agg #[.int .i64 0, .bool false, .slice none 0 0, .slice none 0 0]).cells.toList, NotW u := fun u hu => by
  have : u = .int .i64 0 ∨ u = .bool false ∨ u = .slice none 0 0 ∨ u = .slice none 0 0 := by simpa [Value.cells] using hu
  rcases this with rfl | rfl | rfl | rfl <;> exact fun x h => by cases h
/-- What append of one fraction does. -/
theorem OwnTrms.more {w w' : World} {B : Nat} {v v' : Value} {rs : List Trm} {L : List TrV} (h1 : L.map Prod.fst = rs) (h3 : L.length < 1099511627776) (_h2 : w.ownsRow B 83 4 v L.length (L.flatMap trC)) (h4 : ∀ g, v.ownBlock = some g → NoW w g) (h5 : ∀ x ∈ L, TrOkV w x) (x : TrV) (hx : TrOkV w x)
    (h6 : w'.ownsRow B 83 4 v' (L.length + 1) (L.flatMap trC ++ trC x)) (h7 : w.grownBy w' v.ownBlock) (h8 : ∀ g, v'.ownBlock = some g → NoW w' g) : OwnTrms w' B v' (rs ++ [x.1]) := by
  refine ⟨L ++ [x], by rw [List.map_append, h1]; rfl, ?_, by simp; omega, h8, fun y hy => ?_⟩
  · rw [List.length_append, List.flatMap_append]; simpa using h6
  · rcases List.mem_append.1 hy with hy | hy
    · exact (h5 y hy).only h4 h7.block
    · rw [List.mem_singleton] at hy; rw [hy]; exact hx.only h4 h7.block
/-- append of one fraction to fractions of the call's own. -/
theorem step_trm {ops : Array Oper} {o : Oper} {a : Act} {K : Act → World → Prop} {Q : Exit → Act → World → Prop} {E : Prop} {w : World} (hgd : o.guard = none) (s x : Operand)
    (ho : o.op = .call { callee := .builtin .append, args := #[s, x], argTypes := #[22, 22] }) (B : Nat) (v : Value) (rs : List Trm) (hs : a.eval s = v) (hown : OwnTrms w B v rs)
    (g : Nat) (r : Trm) (u1 u2 : Value) (hx : a.eval x = .slice (some ⟨g, 0, none⟩) 1 1) (hu : w.rangeAt g 0 [.int .i64 r.1, .bool r.2.neg, u1, u2]) (hw1 : WdsAt w u1 r.2.num) (hw2 : WdsAt w u2 r.2.den) (hl : rs.length < 1099511627776) (hB : B ≤ w.heap.size)
    (h : ∀ v' w', OwnTrms w' B v' (rs ++ [r]) → Below B w w' → K (a.put o.dst v') w') : if Region.wanted o (yielded ops a.tmps) = true then Oper.wp Tryz.prog o a w K Q else E := by
  have hw : Region.wanted o (yielded ops a.tmps) = true := by simp [Region.wanted, hgd]
  rw [if_pos hw]
  obtain ⟨i0, hi0, hz0, hz1, hz2⟩ := info_parts info_trm
  obtain ⟨L, h1, h2, h3, h4, h5⟩ := hown
  have hll : L.length = rs.length := by rw [← h1, List.length_map]
  have hok : TrOkV w (r, u1, u2) := ⟨hw1, hw2⟩
  have hone := tr_one (L := [(r, u1, u2)]) (w := w) fun y hy => by rw [List.mem_singleton] at hy; rw [hy]; exact hok
  have hfl : ([(r, u1, u2)] : List TrV).flatMap trC = [.int .i64 r.1, .bool r.2.neg, u1, u2] := rfl
  rw [hfl] at hone
  refine wp_append_noW w s x 22 ho B 83 i0 _ 4 64 Tryz.underlying22 hi0 hz0 hz1 hz2 rfl (by decide) v L.length _ hs h2 ⟨g, 0, none⟩ 1 1 [.int .i64 r.1, .bool r.2.neg, u1, u2] hx (by simp) ?_ (fun u hu => (hone u hu).1) (by simp [maxLen]; omega) (by omega) hB h4 (fun u hu => (hone u hu).2) zero_trm ?_
  · intro j u hj
    have := hu j u hj
    rw [show ({ block := g, off := 0 } : Addr).add j = ⟨g, 0 + j, none⟩ by unfold Addr.add; split <;> simp_all]
    exact this
  · intro v' w' h6 h7 h8
    exact h v' w' (OwnTrms.more h1 (by omega) h2 h4 h5 (r, u1, u2) hok h6 h7 h8) (grown_below h7 h2 hB)
theorem app_trm {ops : Array Oper} {rest : List Oper} {o : Oper} {a : Act} {Q : Exit → Act → World → Prop} {w : World} (hgd : o.guard = none) (s x : Operand)
    (ho : o.op = .call { callee := .builtin .append, args := #[s, x], argTypes := #[22, 22] }) (B : Nat) (v : Value) (rs : List Trm) (hs : a.eval s = v) (hown : OwnTrms w B v rs)
    (g : Nat) (r : Trm) (u1 u2 : Value) (hx : a.eval x = .slice (some ⟨g, 0, none⟩) 1 1) (hu : w.rangeAt g 0 [.int .i64 r.1, .bool r.2.neg, u1, u2]) (hw1 : WdsAt w u1 r.2.num) (hw2 : WdsAt w u2 r.2.den) (hl : rs.length < 1099511627776) (hB : B ≤ w.heap.size)
    (h : ∀ v' w', OwnTrms w' B v' (rs ++ [r]) → Below B w w' → wpList Tryz.prog ops Q rest (a.put o.dst v') w') : wpList Tryz.prog ops Q (o :: rest) a w := by
  obtain ⟨i0, hi0, hz0, hz1, hz2⟩ := info_parts info_trm
  obtain ⟨L, h1, h2, h3, h4, h5⟩ := hown
  have hll : L.length = rs.length := by rw [← h1, List.length_map]
  have hok : TrOkV w (r, u1, u2) := ⟨hw1, hw2⟩
  have hone := tr_one (L := [(r, u1, u2)]) (w := w) fun y hy => by rw [List.mem_singleton] at hy; rw [hy]; exact hok
  have hfl : ([(r, u1, u2)] : List TrV).flatMap trC = [.int .i64 r.1, .bool r.2.neg, u1, u2] := rfl
  rw [hfl] at hone
  refine wpList_plain hgd fun _ hK => wp_append_noW w s x 22 ho B 83 i0 _ 4 64 Tryz.underlying22 hi0 hz0 hz1 hz2 rfl (by decide) v L.length _ hs h2 ⟨g, 0, none⟩ 1 1 [.int .i64 r.1, .bool r.2.neg, u1, u2] hx (by simp) ?_ (fun u hu => (hone u hu).1) (by simp [maxLen]; omega) (by omega) hB h4 (fun u hu => (hone u hu).2) zero_trm ?_
  · intro j u hj
    have := hu j u hj
    rw [show ({ block := g, off := 0 } : Addr).add j = ⟨g, 0 + j, none⟩ by unfold Addr.add; split <;> simp_all]
    exact this
  · intro v' w' h6 h7 h8
    exact hK _ _ (h v' w' (OwnTrms.more h1 (by omega) h2 h4 h5 (r, u1, u2) hok h6 h7 h8) (grown_below h7 h2 hB))
theorem trms_list {w : World} {b o : Nat} : ∀ (ps : List Trm) (d : Nat), (∀ i (h : i < ps.length), ∃ u1 u2, w.rangeAt b (o + (d + i) * 4) [.int .i64 ps[i].1, .bool ps[i].2.neg, u1, u2] ∧ WdsAt w u1 ps[i].2.num ∧ WdsAt w u2 ps[i].2.den) →
    ∃ L : List TrV, L.map Prod.fst = ps ∧ (∀ x ∈ L, TrOkV w x) ∧ w.rangeAt b (o + d * 4) (L.flatMap trC) := by
  intro ps
  induction ps with
  | nil => intro d _; exact ⟨[], rfl, (fun x hx => by cases hx), fun j v hj => by simp at hj⟩
  | cons r ps ih =>
    intro d h
    obtain ⟨u1, u2, h1, h2, h3⟩ := h 0 (by simp)
    obtain ⟨L, e, hL, hr⟩ := ih (d + 1) fun i hi => by
      obtain ⟨u1, u2, h1, h2, h3⟩ := h (i + 1) (by simpa using hi)
      refine ⟨u1, u2, ?_, h2, h3⟩
      rw [show d + 1 + i = d + (i + 1) by omega]
      exact h1
    refine ⟨(r, u1, u2) :: L, by rw [List.map_cons, e], fun x hx => ?_, fun j v hj => ?_⟩
    · rcases List.mem_cons.1 hx with rfl | hx
      · exact ⟨h2, h3⟩
      · exact hL x hx
    · rw [List.flatMap_cons] at hj
      by_cases hj4 : j < 4
      · rw [List.getElem?_append_left (by simpa [trC] using hj4)] at hj
        have := h1 j v hj
        rwa [Nat.add_zero] at this
      · rw [List.getElem?_append_right (by simp [trC]; omega)] at hj
        have := hr (j - 4) v (by simpa [trC] using hj)
        rw [show o + (d + 1) * 4 + (j - 4) = o + d * 4 + j by omega] at this
        exact this
/-- append of a whole list of fractions. -/
theorem app_trms {ops : Array Oper} {rest : List Oper} {o : Oper} {a : Act} {Q : Exit → Act → World → Prop} {w : World} (hgd : o.guard = none) (s x : Operand)
    (ho : o.op = .call { callee := .builtin .append, args := #[s, x], argTypes := #[22, 22] }) (B : Nat) (v : Value) (rs : List Trm) (hs : a.eval s = v) (hown : OwnTrms w B v rs)
    (u : Value) (ps : List Trm) (hx : a.eval x = u) (hu : TrmsAt w u ps) (hl : rs.length + ps.length < 1099511627776) (hB : B ≤ w.heap.size)
    (h : ∀ v' w', OwnTrms w' B v' (rs ++ ps) → Below B w w' → wpList Tryz.prog ops Q rest (a.put o.dst v') w') : wpList Tryz.prog ops Q (o :: rest) a w := by
  obtain ⟨i0, hi0, hz0, hz1, hz2⟩ := info_parts info_trm
  obtain ⟨L, h1, h2, h3, h4, h5⟩ := hown
  have hll : L.length = rs.length := by rw [← h1, List.length_map]
  obtain ⟨ad, c, rfl, ⟨hc, hcn⟩, hpl, hget⟩ := hu
  cases ad with
  | none =>
    have hp : ps = [] := by
      cases ps with
      | nil => rfl
      | cons r ps => obtain ⟨b, o, _, _, h, _⟩ := hget 0 (by simp); cases h
    subst hp
    rw [hcn rfl] at hx
    refine wpList_append_own_none hgd s x 22 ho B 83 i0 4 Tryz.underlying22 hi0 v L.length _ hs h2 hx ?_
    exact h v w (by rw [List.append_nil]; exact ⟨L, h1, h2, h3, h4, h5⟩) (Below.refl _ _)
  | some ad =>
    have hL2 : ∃ L2 : List TrV, L2.map Prod.fst = ps ∧ (∀ x ∈ L2, TrOkV w x) ∧ ∀ j u, (L2.flatMap trC)[j]? = some u → w.cell? (ad.add j) = some u := by
      cases ps with
      | nil => exact ⟨[], rfl, (fun x hx => by cases hx), fun j u hj => by simp at hj⟩
      | cons r0 ps0 =>
        obtain ⟨b, o, _, _, he, _⟩ := hget 0 (by simp)
        cases he
        obtain ⟨L2, e1, e2, e3⟩ := trms_list (w := w) (b := b) (o := o) (r0 :: ps0) 0 fun i hi => by
          obtain ⟨b2, o2, u1, u2, he, k1, k2, k3⟩ := hget i hi
          cases he
          exact ⟨u1, u2, by rw [Nat.zero_add]; exact k1, k2, k3⟩
        refine ⟨L2, e1, e2, fun j u hj => ?_⟩
        have := e3 j u hj
        rw [Nat.zero_mul, Nat.add_zero] at this
        rw [show ({ block := b, off := o } : Addr).add j = ⟨b, o + j, none⟩ by unfold Addr.add; split <;> simp_all]
        exact this
    obtain ⟨L2, g1, g2, g3⟩ := hL2
    have hl2 : L2.length = ps.length := by rw [← g1, List.length_map]
    have hone := tr_one (L := L2) (w := w) g2
    refine wpList_plain hgd fun _ hK => wp_append_noW w s x 22 ho B 83 i0 _ 4 64 Tryz.underlying22 hi0 hz0 hz1 hz2 rfl (by decide) v L.length _ hs h2 ad ps.length c (L2.flatMap trC) hx (by rw [len_tr, hl2]) g3 (fun u hu => (hone u hu).1) (by simp [maxLen]; omega) (by omega) hB h4 (fun u hu => (hone u hu).2) zero_trm ?_
    intro v' w' h6 h7 h8
    refine hK _ _ (h v' w' ⟨L ++ L2, by rw [List.map_append, h1, g1], ?_, by simp; omega, h8, fun y hy => ?_⟩ (grown_below h7 h2 hB))
    · rw [List.length_append, List.flatMap_append, hl2]; exact h6
    · rcases List.mem_append.1 hy with hy | hy
      · exact (h5 y hy).only h4 h7.block
      · exact (g2 y hy).only h4 h7.block
end Go.Proofs.YtpaedhlacbpmpaaGreatDoor

/-
  Maps from ints of the call's own, whatever their values: look-up, store, range.
-/
namespace Go.Proofs.YtpaedhlacbpmpaaGreatDoor
open Go.RowKit

/-- Block b is a map from ints whose entries are L, in the order in which they came. -/
def IntMap (w : World) (b : Nat) (L : List (Int × Value)) : Prop :=
  ∃ es clock, w.heap[b]? = some (.map es clock) ∧ es.toList.map (fun e => (e.key, e.val)) = L.map (fun p => (Value.int .i64 p.1, p.2)) ∧
    (es.toList.map (·.born)).Nodup ∧ (∀ e ∈ es.toList, e.born < clock) ∧ (L.map Prod.fst).Nodup
theorem IntMap.made (w : World) : IntMap (w.alloc (.map #[] 0)) w.heap.size [] := ⟨#[], 0, heap_alloc_new w _, rfl, by simp, by simp, by simp⟩
theorem IntMap.same {w w' : World} {b : Nat} {L : List (Int × Value)} (h : IntMap w b L) (hk : w'.heap[b]? = w.heap[b]?) : IntMap w' b L := by
  obtain ⟨es, c, h1, h2⟩ := h
  exact ⟨es, c, hk.trans h1, h2⟩
theorem IntMap.lt {w : World} {b : Nat} {L : List (Int × Value)} (h : IntMap w b L) : b < w.heap.size := by
  obtain ⟨es, c, h1, _⟩ := h
  rcases Nat.lt_or_ge b w.heap.size with h2 | h2
  · exact h2
  · simp [Array.getElem?_eq_none h2] at h1
def findL (k : Int) : List (Int × Value) → Option Value
  | [] => none
  | p :: L => if k = p.1 then some p.2 else findL k L
def putL (k : Int) (v : Value) : List (Int × Value) → List (Int × Value)
  | [] => [(k, v)]
  | p :: L => if k = p.1 then (k, v) :: L else p :: putL k v L
def idxL (k : Int) : List (Int × Value) → Option Nat
  | [] => none
  | p :: L => if k = p.1 then some 0 else (idxL k L).map (· + 1)
theorem findNow_L {k : Int} : ∀ {es : List MapEntry} {L : List (Int × Value)} (i : Nat), es.map (fun e => (e.key, e.val)) = L.map (fun p => (Value.int .i64 p.1, p.2)) →
    Instr.findNow (.int .i64) (.int .i64 k) es i = some ((idxL k L).bind fun j => (findL k L).map fun v => (i + j, v)) := by
  intro es
  induction es with
  | nil =>
    intro L i h
    have : L = [] := by cases L with
      | nil => rfl
      | cons p L => simp at h
    subst this
    rfl
  | cons e es ih =>
    intro L i h
    cases L with
    | nil => simp at h
    | cons p L =>
      simp only [List.map_cons, List.cons.injEq, Prod.mk.injEq] at h
      obtain ⟨⟨h1, h2⟩, h3⟩ := h
      unfold Instr.findNow idxL findL
      rw [h1]
      simp only [Instr.sameNow]
      by_cases e1 : k = p.1
      · simp [e1, h2]
      · have e2 : (k == p.1) = false := by simpa using e1
        simp only [e2, if_neg e1, if_true]
        rw [ih (i + 1) h3]
        cases h4 : idxL k L with
        | none => rfl
        | some j =>
          simp only [Option.map_some, Option.bind_some]
          cases findL k L with
          | none => rfl
          | some v => simp only [Option.map_some]; rw [show i + 1 + j = i + (j + 1) by omega]
theorem idx_find {k : Int} : ∀ {L : List (Int × Value)}, (idxL k L = none ↔ findL k L = none) := by
  intro L
  induction L with
  | nil => simp [idxL, findL]
  | cons p L ih =>
    unfold idxL findL
    split
    · simp
    · rw [← ih]; cases idxL k L <;> simp
theorem run_checkKey_int {P : Program} {kt : TypeId} (hk : P.underlying kt = some (.int .i64)) (em : Bool) (k : Int) (w : World) : (Instr.checkKey em 10000 kt (.int .i64 k)).run P w = .ok () w := by
  show (Instr.checkKey em (9999 + 1) kt (.int .i64 k)).run P w = _
  rw [Instr.checkKey]
  simp only [Sem.run_bind, run_underlying hk, Result.andThen_ok]
  rfl
theorem run_findKey_int {P : Program} {kt : TypeId} (hk : P.underlying kt = some (.int .i64)) (k : Int) {es : List MapEntry} {L : List (Int × Value)} (h : es.map (fun e => (e.key, e.val)) = L.map (fun p => (Value.int .i64 p.1, p.2))) (w : World) :
    (Instr.findKey kt (.int .i64 k) es).run P w = .ok ((idxL k L).bind fun j => (findL k L).map fun v => (j, v)) w := by
  simp [Instr.findKey, run_underlying hk, findNow_L 0 h]
theorem imap_getObj {P : Program} {w : World} {b : Nat} {es : Array MapEntry} {c : Nat} (h : w.heap[b]? = some (.map es c)) : (getObj b).run P w = .ok (.map es c) w := by
  simp [getObj, Sem.run, h]
theorem run_lookup_int {P : Program} {t kt et : TypeId} (ht : P.underlying t = some (.map kt et)) (hk : P.underlying kt = some (.int .i64)) {w : World} {b : Nat} {L : List (Int × Value)} (h : IntMap w b L) (k : Int) (z : Value) (hz : (zeroValue et).run P w = .ok z w) :
    (Instr.lookup t (.map (some b)) (.int .i64 k) false).run P w = .ok ((findL k L).getD z) w := by
  obtain ⟨es, c, h1, h2, _⟩ := h
  have hf := run_findKey_int hk k h2 w
  cases e1 : findL k L with
  | none =>
    have e2 := idx_find.2 e1
    rw [e2] at hf
    simp [Instr.lookup, run_underlying ht, imap_getObj h1, run_checkKey_int hk, hf, hz, Result.andThen]
  | some v =>
    cases e2 : idxL k L with
    | none => rw [idx_find.1 e2] at e1; cases e1
    | some j =>
      rw [e1, e2] at hf
      simp [Instr.lookup, run_underlying ht, imap_getObj h1, run_checkKey_int hk, hf, Result.andThen]
theorem putL_fst {k : Int} {v : Value} : ∀ {L : List (Int × Value)}, (putL k v L).map Prod.fst = if findL k L = none then L.map Prod.fst ++ [k] else L.map Prod.fst := by
  intro L
  induction L with
  | nil => rfl
  | cons p L ih =>
    unfold putL findL
    by_cases e : k = p.1
    · simp [e]
    · simp only [if_neg e, List.map_cons, ih]
      split <;> simp
theorem findL_none {k : Int} : ∀ {L : List (Int × Value)}, findL k L = none ↔ k ∉ L.map Prod.fst := by
  intro L
  induction L with
  | nil => simp [findL]
  | cons p L ih =>
    unfold findL
    by_cases e : k = p.1
    · simp [e]
    · simp [e, ih]
theorem putL_new {k : Int} {v : Value} : ∀ {L : List (Int × Value)}, findL k L = none → putL k v L = L ++ [(k, v)] := by
  intro L
  induction L with
  | nil => intro _; rfl
  | cons p L ih =>
    intro h
    unfold findL at h
    split at h
    · cases h
    · rename_i e; unfold putL; rw [if_neg e, ih h]; rfl
theorem modify_L {k : Int} {v : Value} : ∀ {es : List MapEntry} {L : List (Int × Value)} {j : Nat}, es.map (fun e => (e.key, e.val)) = L.map (fun p => (Value.int .i64 p.1, p.2)) → idxL k L = some j →
    (es.modify j fun e => { e with key := .int .i64 k, val := v }).map (fun e => (e.key, e.val)) = (putL k v L).map (fun p => (Value.int .i64 p.1, p.2)) := by
  intro es
  induction es with
  | nil =>
    intro L j h hj
    cases L with
    | nil => cases hj
    | cons p L => simp at h
  | cons e es ih =>
    intro L j h hj
    cases L with
    | nil => cases hj
    | cons p L =>
      simp only [List.map_cons, List.cons.injEq, Prod.mk.injEq] at h
      obtain ⟨⟨h1, h2⟩, h3⟩ := h
      unfold idxL at hj
      unfold putL
      by_cases e1 : k = p.1
      · rw [if_pos e1] at hj ⊢
        cases hj
        simp [h3]
      · rw [if_neg e1] at hj ⊢
        obtain ⟨i, hi, rfl⟩ := Option.map_eq_some_iff.1 hj
        simp [h1, h2, ih h3 hi]
theorem born_modify (k : Value) (v : Value) : ∀ (es : List MapEntry) (j : Nat), (es.modify j fun e => { e with key := k, val := v }).map (·.born) = es.map (·.born) := by
  intro es
  induction es with
  | nil => intro j; simp
  | cons e es ih => intro j; cases j <;> simp [ih]
theorem idxL_lt {k : Int} : ∀ {L : List (Int × Value)} {j : Nat}, idxL k L = some j → ∃ h : j < L.length, (L[j]).1 = k := by
  intro L
  induction L with
  | nil => intro j h; cases h
  | cons p L ih =>
    intro j h
    unfold idxL at h
    split at h
    · rename_i e; cases h; exact ⟨by simp, e.symm⟩
    · obtain ⟨i, hi, rfl⟩ := Option.map_eq_some_iff.1 h
      obtain ⟨h1, h2⟩ := ih hi
      exact ⟨by simpa using h1, by simpa using h2⟩
theorem setBlock_heap (w : World) (b : Nat) (o : Obj) (h : b < w.heap.size) : (ChangeMaps.setBlock w b o).heap[b]? = some o ∧ ∀ k, k ≠ b → (ChangeMaps.setBlock w b o).heap[k]? = w.heap[k]? := by
  unfold ChangeMaps.setBlock
  constructor
  · simp [h]
  · intro k hk
    simp [Ne.symm hk]
theorem setBlock_grown (w : World) (b : Nat) (o : Obj) (h : b < w.heap.size) : w.grownBy (ChangeMaps.setBlock w b o) (some b) :=
  ⟨rfl, rfl, rfl, by simp [ChangeMaps.setBlock], fun k _ hk => (setBlock_heap w b o h).2 k (fun e => hk (by rw [e]))⟩
theorem run_update_int {P : Program} {t kt et : TypeId} (ht : P.underlying t = some (.map kt et)) (hk : P.underlying kt = some (.int .i64)) {w : World} {b : Nat} {L : List (Int × Value)} (h : IntMap w b L) (k : Int) (v : Value) :
    ∃ w', (Instr.mapUpdate t (.map (some b)) (.int .i64 k) v).run P w = .ok () w' ∧ IntMap w' b (putL k v L) ∧ w.grownBy w' (some b) := by
  have hlt := h.lt
  obtain ⟨es, c, h1, h2, h3, h4, h5⟩ := h
  have hf := run_findKey_int hk k h2 w
  have hso : ∀ o, (setObj b o).run P w = .ok () (ChangeMaps.setBlock w b o) := fun o => by simp [setObj, Sem.run, h1, ChangeMaps.setBlock]
  cases e1 : findL k L with
  | none =>
    have e2 := idx_find.2 e1
    rw [e2] at hf
    refine ⟨ChangeMaps.setBlock w b (.map (es.push { key := .int .i64 k, val := v, born := c }) (c + 1)), ?_, ⟨_, _, (setBlock_heap w b _ hlt).1, ?_, ?_, ?_, ?_⟩, setBlock_grown w b _ hlt⟩
    · simp [Instr.mapUpdate, run_underlying ht, imap_getObj h1, run_checkKey_int hk, hf, hso, Result.andThen]
    · rw [putL_new e1]; simp [h2]
    · simp only [Array.toList_push, List.map_append, List.map_cons, List.map_nil]
      refine List.nodup_append.2 ⟨h3, by simp, fun a ha b hb => ?_⟩
      obtain ⟨e, he, rfl⟩ := List.mem_map.1 ha
      have := h4 e he
      simp at hb
      omega
    · intro e he
      simp only [Array.toList_push] at he
      rcases List.mem_append.1 he with he | he
      · have := h4 e he; omega
      · simp at he; rw [he]; exact Nat.lt_succ_self _
    · rw [putL_fst, if_pos e1]
      refine List.nodup_append.2 ⟨h5, by simp, fun a ha b hb => ?_⟩
      rw [List.mem_singleton] at hb
      rw [hb]
      exact fun e => (findL_none.1 e1) (e ▸ ha)
  | some v0 =>
    cases e2 : idxL k L with
    | none => rw [idx_find.1 e2] at e1; cases e1
    | some j =>
      rw [e1, e2] at hf
      obtain ⟨hj, hkj⟩ := idxL_lt e2
      have hlen : es.toList.length = L.length := by have := congrArg List.length h2; simpa using this
      have hjs : j < es.size := by simpa using (by omega : j < es.toList.length)
      have hkey : (es[j]'hjs).key = .int .i64 k := by
        have := congrArg (fun l => l[j]?) h2
        simp [hj, hjs] at this
        rw [this.1, hkj]
      have hks : (Instr.keyThatStays (.int .i64 k) (.int .i64 k)).run P w = .ok (.int .i64 k) w := by
        simp [Instr.keyThatStays, Instr.sameBits]
      refine ⟨ChangeMaps.setBlock w b (.map (es.modify j fun e => { e with key := .int .i64 k, val := v }) c), ?_, ⟨_, _, (setBlock_heap w b _ hlt).1, ?_, ?_, ?_, ?_⟩, setBlock_grown w b _ hlt⟩
      · simp [Instr.mapUpdate, run_underlying ht, imap_getObj h1, run_checkKey_int hk, hf, hso, Result.andThen, hjs, hkey, hks]
      · rw [Array.toList_modify]; exact modify_L h2 e2
      · rw [Array.toList_modify, born_modify]; exact h3
      · intro e he
        rw [Array.toList_modify] at he
        have : e.born ∈ (es.toList.modify j fun e => { e with key := .int .i64 k, val := v }).map (·.born) := List.mem_map.2 ⟨e, he, rfl⟩
        rw [born_modify] at this
        obtain ⟨e3, he3, e4⟩ := List.mem_map.1 this
        rw [← e4]
        exact h4 e3 he3
      · rw [putL_fst, if_neg (by rw [e1]; simp)]; exact h5
/-- Block r is an iterator over the map at b, whose entries are L; left says which keys are still to come. -/
def RangeInt (w : World) (b r : Nat) (L : List (Int × Value)) (left : Int → Bool) : Prop :=
  ∃ es clock since seen c0, w.heap[b]? = some (.map es clock) ∧ es.toList.map (fun e => (e.key, e.val)) = L.map (fun p => (Value.int .i64 p.1, p.2)) ∧ (es.toList.map (·.born)).Nodup ∧ (∀ e ∈ es.toList, e.born < clock) ∧ (∀ e ∈ es.toList, e.born < since) ∧ since ≤ c0 ∧ since ≤ clock ∧
    (L.map Prod.fst).Nodup ∧ w.heap[r]? = some (.mapIter (some b) since seen c0) ∧ ∀ e ∈ es.toList, ∀ k, e.key = .int .i64 k → seen.contains e.born = !left k
theorem RangeInt.lt {w : World} {b r : Nat} {L : List (Int × Value)} {left : Int → Bool} (h : RangeInt w b r L left) : r < w.heap.size := by
  obtain ⟨es, c, s, n, c0, _, _, _, _, _, _, _, _, h1, _⟩ := h
  rcases Nat.lt_or_ge r w.heap.size with h2 | h2
  · exact h2
  · simp [Array.getElem?_eq_none h2] at h1
theorem RangeInt.ne {w : World} {b r : Nat} {L : List (Int × Value)} {left : Int → Bool} (h : RangeInt w b r L left) : r ≠ b := by
  obtain ⟨es, c, s, n, c0, h0, _, _, _, _, _, _, _, h1, _⟩ := h
  intro e
  rw [e, h0] at h1
  cases h1
theorem RangeInt.same {w w' : World} {b r : Nat} {L : List (Int × Value)} {left : Int → Bool} (h : RangeInt w b r L left) (hb : w'.heap[b]? = w.heap[b]?) (hr : w'.heap[r]? = w.heap[r]?) : RangeInt w' b r L left := by
  obtain ⟨es, c, s, n, c0, h1, h2, h3, h4, h5, h6, h7, h8, h9, h10⟩ := h
  exact ⟨es, c, s, n, c0, hb.trans h1, h2, h3, h4, h5, h6, h7, h8, hr.trans h9, h10⟩
theorem run_range_int {P : Program} {t kt et : TypeId} (ht : P.underlying t = some (.map kt et)) {w : World} {b : Nat} {L : List (Int × Value)} (h : IntMap w b L) :
    ∃ w', (Instr.range t (.map (some b))).run P w = .ok (.pointer (some ⟨w.heap.size, 0, none⟩)) w' ∧ RangeInt w' b w.heap.size L (fun _ => true) ∧ (∀ k, k < w.heap.size → w'.heap[k]? = w.heap[k]?) ∧ w.grownBy w' none := by
  have hlt := h.lt
  obtain ⟨es, c, h1, h2, h3, h4, h5⟩ := h
  refine ⟨_, run_range_map w t kt et b es c ht h1, ⟨es, c, c, #[], c, ?_, h2, h3, h4, h4, Nat.le_refl _, Nat.le_refl _, h5, heap_alloc_new w _, fun e _ k _ => by simp⟩, fun k hk => heap_alloc_old w _ hk, World.grownBy_alloc w _ none⟩
  rw [heap_alloc_old w _ hlt]; exact h1
theorem nodup_inj {α β : Type} {f : α → β} : ∀ {l : List α}, (l.map f).Nodup → ∀ {x y : α}, x ∈ l → y ∈ l → f x = f y → x = y := by
  intro l
  induction l with
  | nil => intro _ x y hx; cases hx
  | cons a l ih =>
    intro h x y hx hy e
    rw [List.map_cons, List.nodup_cons] at h
    rcases List.mem_cons.1 hx with e1 | e1 <;> rcases List.mem_cons.1 hy with e2 | e2
    · rw [e1, e2]
    · exact absurd (List.mem_map.2 ⟨y, e2, by rw [← e, e1]⟩) h.1
    · exact absurd (List.mem_map.2 ⟨x, e1, by rw [e, e2]⟩) h.1
    · exact ih h.2 e1 e2 e
theorem nodup_of_map {α β : Type} {f : α → β} (hf : ∀ a b, f a = f b → a = b) : ∀ {l : List α}, l.Nodup → (l.map f).Nodup := by
  intro l
  induction l with
  | nil => intro _; exact List.nodup_nil
  | cons a l ih =>
    intro h
    rw [List.nodup_cons] at h
    rw [List.map_cons, List.nodup_cons]
    refine ⟨fun h2 => ?_, ih h.2⟩
    obtain ⟨b, hb, e⟩ := List.mem_map.1 h2
    exact h.1 (by rw [← hf b a e]; exact hb)
theorem run_next_int {P : Program} {w : World} {b r : Nat} {L : List (Int × Value)} {left : Int → Bool} (h : RangeInt w b r L left) (ty : TypeId) :
    ((∀ p ∈ L, left p.1 = false) ∧ (Instr.next (.pointer (some ⟨r, 0, none⟩)) false ty).run P w = .ok (.tuple #[.bool false]) w) ∨
    ∃ p ∈ L, left p.1 = true ∧ ∃ w', (Instr.next (.pointer (some ⟨r, 0, none⟩)) false ty).run P w = .ok (.tuple #[.bool true, .int .i64 p.1, p.2]) w' ∧ RangeInt w' b r L (fun k => left k && !(k == p.1)) ∧ w.grownBy w' (some r) ∧
      ∀ W, W.heap[b]? = w'.heap[b]? → W.heap[r]? = w'.heap[r]? → (Instr.entry (.pointer (some ⟨r, 0, none⟩))).run P W = .ok (.tuple #[.int .i64 p.1, p.2]) W := by
  have hrl := h.lt
  have hne := h.ne
  obtain ⟨es, c, s, n, c0, h1, h2, h3, h4, h5, h6, h7, h8, h9, h10⟩ := h
  have hof : ∀ e ∈ es.toList, ∃ p ∈ L, e.key = .int .i64 p.1 ∧ e.val = p.2 := fun e he => by
    have : (e.key, e.val) ∈ L.map (fun p => (Value.int .i64 p.1, p.2)) := by rw [← h2]; exact List.mem_map.2 ⟨e, he, rfl⟩
    obtain ⟨p, hp, e1⟩ := List.mem_map.1 this
    simp only [Prod.mk.injEq] at e1
    exact ⟨p, hp, e1.1.symm, e1.2.symm⟩
  have hto : ∀ p ∈ L, ∃ e ∈ es.toList, e.key = .int .i64 p.1 ∧ e.val = p.2 := fun p hp => by
    have : (Value.int .i64 p.1, p.2) ∈ es.toList.map (fun e => (e.key, e.val)) := by rw [h2]; exact List.mem_map.2 ⟨p, hp, rfl⟩
    obtain ⟨e, he, e1⟩ := List.mem_map.1 this
    simp only [Prod.mk.injEq] at e1
    exact ⟨e, he, e1.1, e1.2⟩
  rcases run_next_at (P := P) w ty r b s c0 n es c h9 h1 h5 h6 with ⟨g1, g2⟩ | ⟨e, he, w1, hw1, g2⟩
  · refine .inl ⟨fun p hp => ?_, g2⟩
    obtain ⟨e, he, e1, e2⟩ := hto p hp
    have hc := h10 e he p.1 e1
    cases hl : left p.1 with
    | false => rfl
    | true =>
      exfalso
      rw [hl] at hc
      have hm : e ∈ leftOf es n := by
        unfold leftOf
        rw [Array.mem_filter]
        exact ⟨Array.mem_toList_iff.1 he, by rw [hc]; rfl⟩
      have h0 : leftOf es n = #[] := Array.eq_empty_of_size_eq_zero g1
      rw [h0] at hm
      simp at hm
  · have hm : e ∈ es.toList ∧ n.contains e.born = false := by
      have := Array.mem_toList_iff.1 he
      unfold leftOf at this
      rw [Array.mem_filter] at this
      exact ⟨Array.mem_toList_iff.2 this.1, by simpa using this.2⟩
    obtain ⟨p, hp, e1, e2⟩ := hof e hm.1
    have hlp : left p.1 = true := by
      have := h10 e hm.1 p.1 e1
      rw [hm.2] at this
      simpa using this.symm
    have hs1 : w1.heap = w.heap ∧ w1.os = w.os ∧ w1.tape = w.tape ∧ w1.output = w.output := by rcases hw1 with rfl | rfl <;> exact ⟨rfl, rfl, rfl, rfl⟩
    have hr1 : r < w1.heap.size := by rw [hs1.1]; exact hrl
    have hsb := setBlock_heap w1 r (.mapIter (some b) s (n.push e.born) c) hr1
    have hb' : (ChangeMaps.setBlock w1 r (.mapIter (some b) s (n.push e.born) c)).heap[b]? = some (.map es c) := by rw [hsb.2 b (Ne.symm hne), hs1.1]; exact h1
    refine .inr ⟨p, hp, hlp, _, by rw [g2, e1, e2], ⟨es, c, s, n.push e.born, c, hb', h2, h3, h4, h5, h7, h7, h8, hsb.1, fun x hx k hk => ?_⟩, ?_, fun W hWb hWr => ?_⟩
    · have hx2 := h10 x hx k hk
      have hborn : ∀ x ∈ es.toList, x.born = e.born → x = e := fun x hx hb => by
        exact nodup_inj h3 hx hm.1 hb
      by_cases hxe : x = e
      · subst hxe
        rw [e1] at hk
        injection hk with _ hk
        subst hk
        simp
      · have hbn : ¬ x.born = e.born := fun hb => hxe (hborn x hx hb)
        have hkn : (k == p.1) = false := by
          rw [beq_eq_false_iff_ne]
          intro hkp
          subst hkp
          have h8' : (es.toList.map (·.key)).Nodup := by
            have e3 : es.toList.map (·.key) = (L.map Prod.fst).map (Value.int .i64) := by
              have := congrArg (List.map Prod.fst) h2
              simpa [List.map_map, Function.comp_def] using this
            rw [e3]
            exact nodup_of_map (fun a b h => by injection h) h8
          exact hxe (nodup_inj h8' hx hm.1 (by rw [hk, e1]))
        show _ = !(left k && !(k == p.1))
        rw [hkn]
        have h11 : (n.push e.born).contains x.born = n.contains x.born := by
          simp [hbn]
        rw [h11, hx2]
        cases left k <;> rfl
    · refine ⟨?_, ?_, ?_, ?_, fun k hk hkr => ?_⟩
      · exact hs1.2.1
      · exact hs1.2.2.1
      · exact hs1.2.2.2
      · simp [ChangeMaps.setBlock, hs1.1]
      · rw [hsb.2 k (fun e => hkr (by rw [e])), hs1.1]
    · have := run_entry_at (P := P) W r b s n es c e (by rw [hWr]; exact hsb.1) (by rw [hWb]; exact hb') hm.1 h3
      rw [this, e1, e2]
end Go.Proofs.YtpaedhlacbpmpaaGreatDoor

/-
  Plain: polynomials as lists of terms; the accepted form is the only one.
-/
namespace Go.Proofs.YtpaedhlacbpmpaaGreatDoor

/-- Terms of a polynomial: sets with coefficients. -/
abbrev Pol := List (Nat × Rat)
/-- The sum of the coefficients times a number of each set. -/
def sumP (φ : Nat → Rat) : Pol → Rat
  | [] => 0
  | t :: p => t.2 * φ t.1 + sumP φ p
theorem sumP_app (φ : Nat → Rat) : ∀ p q : Pol, sumP φ (p ++ q) = sumP φ p + sumP φ q := by
  intro p
  induction p with
  | nil => intro q; show sumP φ q = 0 + sumP φ q; grind
  | cons t p ih => intro q; show t.2 * φ t.1 + sumP φ (p ++ q) = t.2 * φ t.1 + sumP φ p + sumP φ q; rw [ih]; grind
/-- A polynomial and a term. -/
def plusP : Pol → Nat × Rat → Pol
  | [], t => if t.2 = 0 then [] else [t]
  | u :: p, t => if ltK u.1 t.1 then u :: plusP p t else if u.1 = t.1 then (if t.2 + u.2 = 0 then p else (t.1, t.2 + u.2) :: p) else (if t.2 = 0 then u :: p else t :: u :: p)
theorem sumP_plus (φ : Nat → Rat) (t : Nat × Rat) : ∀ p : Pol, sumP φ (plusP p t) = sumP φ p + t.2 * φ t.1 := by
  intro p
  induction p with
  | nil =>
    unfold plusP
    split
    · rename_i h; show (0 : Rat) = 0 + t.2 * φ t.1; rw [h]; grind
    · show t.2 * φ t.1 + 0 = 0 + t.2 * φ t.1; grind
  | cons u p ih =>
    unfold plusP
    split
    · show u.2 * φ u.1 + sumP φ (plusP p t) = u.2 * φ u.1 + sumP φ p + t.2 * φ t.1; rw [ih]; grind
    · split
      · rename_i h
        split
        · rename_i h2
          show sumP φ p = u.2 * φ u.1 + sumP φ p + t.2 * φ t.1
          rw [h]
          have : t.2 = - u.2 := by grind
          rw [this]; grind
        · show (t.2 + u.2) * φ t.1 + sumP φ p = u.2 * φ u.1 + sumP φ p + t.2 * φ t.1
          rw [h]; grind
      · split
        · rename_i h; show u.2 * φ u.1 + sumP φ p = u.2 * φ u.1 + sumP φ p + t.2 * φ t.1; rw [h]; grind
        · show t.2 * φ t.1 + (u.2 * φ u.1 + sumP φ p) = u.2 * φ u.1 + sumP φ p + t.2 * φ t.1; grind
/-- An accepted list of terms: ascending sets, no coefficient 0. -/
def CanP (p : Pol) : Prop := p.Pairwise (fun a b => ltK a.1 b.1) ∧ ∀ t ∈ p, t.2 ≠ 0
theorem CanP.nil : CanP [] := ⟨List.Pairwise.nil, fun _ h => by cases h⟩
theorem CanP.tail {t : Nat × Rat} {p : Pol} (h : CanP (t :: p)) : CanP p := ⟨(List.pairwise_cons.1 h.1).2, fun u hu => h.2 u (List.mem_cons_of_mem _ hu)⟩
theorem CanP.head {t : Nat × Rat} {p : Pol} (h : CanP (t :: p)) : ∀ u ∈ p, ltK t.1 u.1 := (List.pairwise_cons.1 h.1).1
theorem mem_plusP {t v : Nat × Rat} : ∀ {p : Pol}, v ∈ plusP p t → v.1 = t.1 ∨ v ∈ p := by
  intro p
  induction p with
  | nil =>
    intro h
    unfold plusP at h
    split at h
    · cases h
    · rw [List.mem_singleton] at h; exact .inl (by rw [h])
  | cons u p ih =>
    intro h
    unfold plusP at h
    split at h
    · rcases List.mem_cons.1 h with h | h
      · exact .inr (by rw [h]; exact List.mem_cons_self ..)
      · exact (ih h).imp id fun h => List.mem_cons_of_mem _ h
    · split at h
      · split at h
        · exact .inr (List.mem_cons_of_mem _ h)
        · rcases List.mem_cons.1 h with h | h
          · exact .inl (by rw [h])
          · exact .inr (List.mem_cons_of_mem _ h)
      · split at h
        · exact .inr h
        · rcases List.mem_cons.1 h with h | h
          · exact .inl (by rw [h])
          · exact .inr h
theorem can_plusP {t : Nat × Rat} : ∀ {p : Pol}, CanP p → CanP (plusP p t) := by
  intro p
  induction p with
  | nil =>
    intro _
    unfold plusP
    split
    · exact CanP.nil
    · rename_i h
      exact ⟨List.pairwise_singleton .., fun u hu => by rw [List.mem_singleton] at hu; rw [hu]; exact h⟩
  | cons u p ih =>
    intro h
    unfold plusP
    split
    · rename_i h1
      have ih := ih h.tail
      refine ⟨List.pairwise_cons.2 ⟨fun v hv => ?_, ih.1⟩, fun v hv => ?_⟩
      · rcases mem_plusP hv with e | e
        · rw [e]; exact h1
        · exact h.head v e
      · rcases List.mem_cons.1 hv with e | e
        · rw [e]; exact h.2 u (List.mem_cons_self ..)
        · exact ih.2 v e
    · split
      · rename_i h1 h2
        split
        · exact h.tail
        · rename_i h3
          refine ⟨List.pairwise_cons.2 ⟨fun v hv => by rw [← h2]; exact h.head v hv, h.tail.1⟩, fun v hv => ?_⟩
          rcases List.mem_cons.1 hv with e | e
          · rw [e]; exact h3
          · exact h.tail.2 v e
      · rename_i h1 h2
        split
        · exact h
        · rename_i h3
          have hlt : ltK t.1 u.1 := by
            rcases ltK_total u.1 t.1 with e | e | e
            · exact absurd e h1
            · exact absurd e h2
            · exact e
          refine ⟨List.pairwise_cons.2 ⟨fun v hv => ?_, h.1⟩, fun v hv => ?_⟩
          · rcases List.mem_cons.1 hv with e | e
            · rw [e]; exact hlt
            · exact ltK_tr _ _ _ hlt (h.head v e)
          · rcases List.mem_cons.1 hv with e | e
            · rw [e]; exact h3
            · exact h.2 v e
/-- The coefficient of a set. -/
def coef (p : Pol) (s : Nat) : Rat := sumP (fun u => if u = s then 1 else 0) p
theorem coef_cons (t : Nat × Rat) (p : Pol) (s : Nat) : coef (t :: p) s = (if t.1 = s then t.2 else 0) + coef p s := by
  show t.2 * (if t.1 = s then 1 else 0) + coef p s = _
  split <;> grind
theorem coef_none {p : Pol} {s : Nat} (h : ∀ t ∈ p, t.1 ≠ s) : coef p s = 0 := by
  induction p with
  | nil => rfl
  | cons t p ih =>
    rw [coef_cons, if_neg (h t (List.mem_cons_self ..)), ih fun u hu => h u (List.mem_cons_of_mem _ hu)]
    grind
theorem coef_mem {p : Pol} (h : CanP p) {t : Nat × Rat} (ht : t ∈ p) : coef p t.1 = t.2 := by
  induction p with
  | nil => cases ht
  | cons u p ih =>
    rcases List.mem_cons.1 ht with e | e
    · subst e
      rw [coef_cons, if_pos rfl, coef_none fun v hv e => ltK_irr t.1 (by have := h.head v hv; rwa [e] at this)]
      grind
    · rw [coef_cons, if_neg (fun e2 => ltK_irr t.1 (by have := h.head t e; rwa [e2] at this)), ih h.tail e]
      grind
/-- Accepted lists with the same coefficients are the same. -/
theorem pol_unique : ∀ {p q : Pol}, CanP p → CanP q → (∀ s, coef p s = coef q s) → p = q := by
  intro p
  induction p with
  | nil =>
    intro q _ hq h
    cases q with
    | nil => rfl
    | cons t q =>
      have := h t.1
      rw [coef_mem hq (List.mem_cons_self ..)] at this
      exact absurd this.symm (hq.2 t (List.mem_cons_self ..))
  | cons t p ih =>
    intro q hp hq h
    cases q with
    | nil =>
      have := h t.1
      rw [coef_mem hp (List.mem_cons_self ..)] at this
      exact absurd this (hp.2 t (List.mem_cons_self ..))
    | cons u q =>
      have e : t.1 = u.1 := by
        rcases ltK_total t.1 u.1 with e | e | e
        · have h1 := h t.1
          rw [coef_mem hp (List.mem_cons_self ..), coef_none] at h1
          · exact absurd h1 (hp.2 t (List.mem_cons_self ..))
          · intro v hv e2
            rcases List.mem_cons.1 hv with e3 | e3
            · rw [e3] at e2; rw [e2] at e; exact ltK_irr _ e
            · have := ltK_tr _ _ _ e (hq.head v e3); rw [e2] at this; exact ltK_irr _ this
        · exact e
        · have h1 := h u.1
          rw [coef_mem hq (List.mem_cons_self ..), coef_none] at h1
          · exact absurd h1.symm (hq.2 u (List.mem_cons_self ..))
          · intro v hv e2
            rcases List.mem_cons.1 hv with e3 | e3
            · rw [e3] at e2; rw [e2] at e; exact ltK_irr _ e
            · have := ltK_tr _ _ _ e (hp.head v e3); rw [e2] at this; exact ltK_irr _ this
      have e2 : t = u := by
        have h1 := h t.1
        rw [coef_mem hp (List.mem_cons_self ..), e, coef_mem hq (List.mem_cons_self ..)] at h1
        exact Prod.ext e h1
      subst e2
      rw [ih hp.tail hq.tail fun s => ?_]
      have := h s
      rw [coef_cons, coef_cons] at this
      grind
/-- The polynomial of a list of terms. -/
def normP (l : Pol) : Pol := l.foldl plusP []
theorem foldP_sum (φ : Nat → Rat) : ∀ (l p : Pol), sumP φ (l.foldl plusP p) = sumP φ p + sumP φ l := by
  intro l
  induction l with
  | nil => intro p; show sumP φ p = sumP φ p + 0; grind
  | cons t l ih =>
    intro p
    rw [List.foldl_cons, ih, sumP_plus]
    show _ = sumP φ p + (t.2 * φ t.1 + sumP φ l)
    grind
theorem normP_sum (φ : Nat → Rat) (l : Pol) : sumP φ (normP l) = sumP φ l := by
  unfold normP
  rw [foldP_sum]
  show 0 + _ = _
  grind
theorem normP_coef (l : Pol) (s : Nat) : coef (normP l) s = coef l s := normP_sum _ l
theorem foldP_can : ∀ (l p : Pol), CanP p → CanP (l.foldl plusP p) := by
  intro l
  induction l with
  | nil => intro p h; exact h
  | cons t l ih => intro p h; exact ih _ (can_plusP h)
theorem normP_can (l : Pol) : CanP (normP l) := foldP_can l [] CanP.nil
theorem normP_eq {p l : Pol} (h : CanP p) (hc : ∀ s, coef p s = coef l s) : p = normP l := pol_unique h (normP_can l) fun s => by rw [hc, normP_coef]
theorem mem_foldP {v : Nat × Rat} : ∀ {l p : Pol}, v ∈ l.foldl plusP p → (∃ t ∈ l, v.1 = t.1) ∨ v ∈ p := by
  intro l
  induction l with
  | nil => intro p h; exact .inr h
  | cons t l ih =>
    intro p h
    rcases ih h with ⟨u, hu, e⟩ | h
    · exact .inl ⟨u, List.mem_cons_of_mem _ hu, e⟩
    · rcases mem_plusP h with e | e
      · exact .inl ⟨t, List.mem_cons_self .., e⟩
      · exact .inr e
theorem mem_normP {v : Nat × Rat} {l : Pol} (h : v ∈ normP l) : ∃ t ∈ l, v.1 = t.1 := by
  rcases mem_foldP h with h | h
  · exact h
  · cases h
theorem len_plusP (t : Nat × Rat) : ∀ p : Pol, (plusP p t).length ≤ p.length + 1 := by
  intro p
  induction p with
  | nil => unfold plusP; split <;> simp
  | cons u p ih =>
    unfold plusP
    split
    · simp; exact ih
    · split
      · split <;> simp <;> omega
      · split <;> simp
theorem len_foldP : ∀ (l p : Pol), (l.foldl plusP p).length ≤ p.length + l.length := by
  intro l
  induction l with
  | nil => intro p; exact Nat.le_refl _
  | cons t l ih =>
    intro p
    refine Nat.le_trans (ih _) ?_
    have := len_plusP t p
    rw [List.length_cons]
    omega
theorem len_normP (l : Pol) : (normP l).length ≤ l.length := by
  have := len_foldP l []
  rw [List.length_nil, Nat.zero_add] at this
  exact this
def negP (p : Pol) : Pol := p.map fun t => (t.1, - t.2)
def scaleP (s : Nat × Rat) (q : Pol) : Pol := q.map fun t => (s.1 ||| t.1, s.2 * t.2)
def mulT (p q : Pol) : Pol := p.flatMap fun s => scaleP s q
theorem sumP_neg (φ : Nat → Rat) (p : Pol) : sumP φ (negP p) = - sumP φ p := by
  induction p with
  | nil => show (0 : Rat) = - 0; grind
  | cons t p ih => show (- t.2) * φ t.1 + sumP φ (negP p) = - (t.2 * φ t.1 + sumP φ p); rw [ih]; grind
theorem sumP_scale {φ : Nat → Rat} (hφ : ∀ a b, φ (a ||| b) = φ a * φ b) (s : Nat × Rat) (q : Pol) : sumP φ (scaleP s q) = s.2 * φ s.1 * sumP φ q := by
  induction q with
  | nil => show (0 : Rat) = _ * 0; grind
  | cons t q ih => show s.2 * t.2 * φ (s.1 ||| t.1) + sumP φ (scaleP s q) = _ * (t.2 * φ t.1 + sumP φ q); rw [ih, hφ]; grind
theorem sumP_mul {φ : Nat → Rat} (hφ : ∀ a b, φ (a ||| b) = φ a * φ b) (p q : Pol) : sumP φ (mulT p q) = sumP φ p * sumP φ q := by
  induction p with
  | nil => show (0 : Rat) = 0 * _; grind
  | cons t p ih =>
    show sumP φ (scaleP t q ++ mulT p q) = (t.2 * φ t.1 + sumP φ p) * _
    rw [sumP_app, sumP_scale hφ, ih]; grind
theorem mulT_len (p q : Pol) : (mulT p q).length = p.length * q.length := by
  induction p with
  | nil => simp [mulT]
  | cons t p ih =>
    show (scaleP t q ++ mulT p q).length = _
    rw [List.length_append, ih, List.length_cons, Nat.succ_mul]
    simp [scaleP]; omega
end Go.Proofs.YtpaedhlacbpmpaaGreatDoor

/-
  The map that collects coefficients by their sets: its operations, what it says, its terms.
-/
namespace Go.Proofs.YtpaedhlacbpmpaaGreatDoor
open Go.RowKit Go.Maps

theorem zero_rat_run (w : World) : (zeroValue 38).run Tryz.prog w = .ok (.agg #[.bool false, .slice none 0 0, .slice none 0 0]) w := by kernel_rfl
section
variable {ops : Array Oper} {rest : List Oper} {o : Oper} {a : Act} {Q : Exit → Act → World → Prop} {w : World}
theorem look_sum (hg : o.guard = none) (m x : Operand) (hop : o.op = Op.lookup 90 m x false) (b : Nat) (L : List (Int × Value)) (hm : a.eval m = .map (some b)) (h : IntMap w b L) (k : Int) (hx : a.eval x = .int .i64 k)
    (hK : wpList Tryz.prog ops Q rest (a.put o.dst ((findL k L).getD (.agg #[.bool false, .slice none 0 0, .slice none 0 0]))) w) : wpList Tryz.prog ops Q (o :: rest) a w := by
  refine wpList_plain hg fun K' hK' => ?_
  have hrun := run_lookup_int (P := Tryz.prog) Tryz.underlying90 Tryz.underlying3 h k _ (zero_rat_run w)
  unfold Oper.wp
  simp [execOp, hop, hm, hx, hrun, Result.andThen]
  exact hK' _ _ hK
theorem store_sum (hg : o.guard = none) (m x v : Operand) (hop : o.op = Op.mapUpdate 90 m x v) (b : Nat) (L : List (Int × Value)) (hm : a.eval m = .map (some b)) (h : IntMap w b L) (k : Int) (hx : a.eval x = .int .i64 k) (c : Value) (hv : a.eval v = c)
    (hK : ∀ w', IntMap w' b (putL k c L) → w.grownBy w' (some b) → wpList Tryz.prog ops Q rest (a.put o.dst undef) w') : wpList Tryz.prog ops Q (o :: rest) a w := by
  obtain ⟨w', hrun, h1, h2⟩ := run_update_int (P := Tryz.prog) Tryz.underlying90 Tryz.underlying3 h k c
  refine wpList_plain hg fun K' hK' => ?_
  unfold Oper.wp
  simp [execOp, hop, hm, hx, hv, hrun, Result.andThen]
  exact hK' _ _ (hK w' h1 h2)
theorem range_sum (hg : o.guard = none) (m : Operand) (hop : o.op = Op.range 90 m) (b : Nat) (L : List (Int × Value)) (hm : a.eval m = .map (some b)) (h : IntMap w b L)
    (hK : ∀ w', RangeInt w' b w.heap.size L (fun _ => true) → w.grownBy w' none → w.heap.size < w'.heap.size → wpList Tryz.prog ops Q rest (a.put o.dst (.pointer (some ⟨w.heap.size, 0, none⟩))) w') : wpList Tryz.prog ops Q (o :: rest) a w := by
  obtain ⟨w', hrun, h1, _, h2⟩ := run_range_int (P := Tryz.prog) Tryz.underlying90 h
  refine wpList_plain hg fun K' hK' => ?_
  unfold Oper.wp
  simp [execOp, hop, hm, hrun, Result.andThen]
  exact hK' _ _ (hK w' h1 h2 h1.lt)
theorem next_sum (hg : o.guard = none) (it : Operand) (hop : o.op = Op.next it false) (b r : Nat) (L : List (Int × Value)) (left : Int → Bool) (hit : a.eval it = .pointer (some ⟨r, 0, none⟩)) (h : RangeInt w b r L left)
    (hDone : (∀ p ∈ L, left p.1 = false) → wpList Tryz.prog ops Q rest (a.put o.dst (.tuple #[.bool false])) w)
    (hMore : ∀ p ∈ L, left p.1 = true → ∀ w', RangeInt w' b r L (fun k => left k && !(k == p.1)) → w.grownBy w' (some r) →
      (∀ W, W.heap[b]? = w'.heap[b]? → W.heap[r]? = w'.heap[r]? → (Instr.entry (.pointer (some ⟨r, 0, none⟩))).run Tryz.prog W = .ok (.tuple #[.int .i64 p.1, p.2]) W) → wpList Tryz.prog ops Q rest (a.put o.dst (.tuple #[.bool true, .int .i64 p.1, p.2])) w') :
    wpList Tryz.prog ops Q (o :: rest) a w := by
  refine wpList_plain hg fun K' hK' => ?_
  unfold Oper.wp
  rcases run_next_int (P := Tryz.prog) h o.type with ⟨h0, hrun⟩ | ⟨p, hp, hl, w', hrun, h1, h2, h3⟩
  · simp [execOp, hop, hit, hrun, Result.andThen]
    exact hK' _ _ (hDone h0)
  · simp [execOp, hop, hit, hrun, Result.andThen]
    exact hK' _ _ (hMore p hp hl w' h1 h2 h3)
end
theorem IntMap.noW {w : World} {b : Nat} {L : List (Int × Value)} (h : IntMap w b L) : NoW w b := by
  obtain ⟨es, c, h1, _⟩ := h
  intro cur e fr h2
  rw [h1] at h2; cases h2
theorem RatAt.grown {w w' : World} {b : Nat} {v : Value} {r : Rw} (h : RatAt w v r) (hb : NoW w b) (hg : w.grownBy w' (some b)) : RatAt w' v r := by
  obtain ⟨u1, u2, rfl, h1, h2⟩ := h
  have hr : ∀ k, some b = some k → NoW w k := fun k e => by cases e; exact hb
  exact ⟨u1, u2, rfl, h1.only hr hg.block, h2.only hr hg.block⟩
/-- The terms l have been added to the map. -/
def SumAt (w : World) (b : Nat) (l : Pol) : Prop :=
  ∃ L : List (Int × Value), IntMap w b L ∧ (∀ p ∈ L, ∃ t ∈ l, p.1 = (t.1 : Int) ∧ RatAt w p.2 (canR (coef l t.1))) ∧ ∀ t ∈ l, ∃ p ∈ L, p.1 = (t.1 : Int)
theorem SumAt.made (w : World) : SumAt (w.alloc (.map #[] 0)) w.heap.size [] := ⟨[], IntMap.made w, (fun p hp => by cases hp), fun t ht => by cases ht⟩
theorem SumAt.kept {w w' : World} {b : Nat} {l : Pol} (h : SumAt w b l) (hk : Kept w w') : SumAt w' b l := by
  obtain ⟨L, h1, h2, h3⟩ := h
  exact ⟨L, h1.same (hk.block b h1.lt), fun p hp => let ⟨t, ht, e, hr⟩ := h2 p hp; ⟨t, ht, e, hr.kept hk⟩, h3⟩
theorem SumAt.lt {w : World} {b : Nat} {l : Pol} (h : SumAt w b l) : b < w.heap.size := by obtain ⟨L, h1, _⟩ := h; exact h1.lt
theorem findL_mem {k : Int} {v : Value} : ∀ {L : List (Int × Value)}, findL k L = some v → (k, v) ∈ L := by
  intro L
  induction L with
  | nil => intro h; cases h
  | cons p L ih =>
    intro h
    unfold findL at h
    split at h
    · rename_i e; cases h; subst e; exact List.mem_cons_self
    · exact List.mem_cons_of_mem _ (ih h)
theorem mem_putL {k : Int} {v : Value} {p : Int × Value} : ∀ {L : List (Int × Value)}, (L.map Prod.fst).Nodup → p ∈ putL k v L → p = (k, v) ∨ (p ∈ L ∧ p.1 ≠ k) := by
  intro L
  induction L with
  | nil => intro _ h; exact .inl (by simpa [putL] using h)
  | cons q L ih =>
    intro hn h
    rw [List.map_cons, List.nodup_cons] at hn
    unfold putL at h
    split at h
    · rename_i e
      rcases List.mem_cons.1 h with h | h
      · exact .inl h
      · refine .inr ⟨List.mem_cons_of_mem _ h, fun e2 => hn.1 ?_⟩
        rw [← e, ← e2]; exact List.mem_map.2 ⟨p, h, rfl⟩
    · rename_i e
      rcases List.mem_cons.1 h with h | h
      · subst h; exact .inr ⟨List.mem_cons_self, fun e2 => e e2.symm⟩
      · rcases ih hn.2 h with h | ⟨h1, h2⟩
        · exact .inl h
        · exact .inr ⟨List.mem_cons_of_mem _ h1, h2⟩
theorem putL_keys {k : Int} {v : Value} : ∀ {L : List (Int × Value)}, (∃ p ∈ putL k v L, p.1 = k) ∧ ∀ q ∈ L, ∃ p ∈ putL k v L, p.1 = q.1 := by
  intro L
  induction L with
  | nil => exact ⟨⟨(k, v), by simp [putL], rfl⟩, fun q hq => by cases hq⟩
  | cons q L ih =>
    unfold putL
    split
    · rename_i e
      refine ⟨⟨(k, v), List.mem_cons_self, rfl⟩, fun p hp => ?_⟩
      rcases List.mem_cons.1 hp with rfl | hp
      · exact ⟨(k, v), List.mem_cons_self, e⟩
      · exact ⟨p, List.mem_cons_of_mem _ hp, rfl⟩
    · obtain ⟨⟨p, hp, e⟩, h2⟩ := ih
      refine ⟨⟨p, List.mem_cons_of_mem _ hp, e⟩, fun x hx => ?_⟩
      rcases List.mem_cons.1 hx with rfl | hx
      · exact ⟨x, List.mem_cons_self, rfl⟩
      · obtain ⟨y, hy, e2⟩ := h2 x hx
        exact ⟨y, List.mem_cons_of_mem _ hy, e2⟩
theorem coef_one_more (l : Pol) (s t : Nat) (c : Rat) : coef (l ++ [(s, c)]) t = coef l t + if s = t then c else 0 := by
  unfold coef
  rw [sumP_app]
  have e : sumP (fun u => if u = t then (1 : Rat) else 0) [(s, c)] = c * (if s = t then 1 else 0) + 0 := rfl
  rw [e]
  by_cases h : s = t
  · rw [if_pos h, if_pos h, Rat.mul_one, Rat.add_zero]
  · rw [if_neg h, if_neg h, Rat.mul_zero, Rat.add_zero]
/-- One more term: the coefficient that is found, and the map with the new one. -/
theorem SumAt.step {w : World} {b : Nat} {l : Pol} (h : SumAt w b l) (s : Nat) : ∃ L, IntMap w b L ∧ RatAt w ((findL (s : Int) L).getD (.agg #[.bool false, .slice none 0 0, .slice none 0 0])) (canR (coef l s)) ∧
    ∀ (w1 w2 : World) (c : Rat) (v : Value), Kept w w1 → RatAt w1 v (canR (coef l s + c)) → IntMap w2 b (putL (s : Int) v L) → w1.grownBy w2 (some b) → SumAt w2 b (l ++ [(s, c)]) := by
  obtain ⟨L, h1, h2, h3⟩ := h
  refine ⟨L, h1, ?_, fun w1 w2 c v hk hv hm hg => ⟨_, hm, fun p hp => ?_, fun t ht => ?_⟩⟩
  · cases hf : findL (s : Int) L with
    | none =>
      have h0 : coef l s = 0 := coef_none fun t ht e => by
        obtain ⟨p, hp, e2⟩ := h3 t ht
        exact findL_none.1 hf (List.mem_map.2 ⟨p, hp, by rw [e2, e]⟩)
      rw [h0]
      exact ⟨_, _, rfl, WdsAt.nil w, WdsAt.nil w⟩
    | some v =>
      obtain ⟨t, ht, e, hr⟩ := h2 _ (findL_mem hf)
      have e : s = t.1 := by
        have e' : (s : Int) = (t.1 : Int) := e
        omega
      subst e
      exact hr
  · have hw : NoW w1 b := (h1.same (hk.block b h1.lt)).noW
    have hnd : (L.map Prod.fst).Nodup := by obtain ⟨_, _, _, _, _, _, h⟩ := h1; exact h
    rcases mem_putL hnd hp with rfl | ⟨hp, hne⟩
    · refine ⟨(s, c), by simp, rfl, ?_⟩
      show RatAt w2 v (canR (coef (l ++ [(s, c)]) s))
      rw [coef_one_more, if_pos rfl]
      exact hv.grown hw hg
    · obtain ⟨t, ht, e, hr⟩ := h2 p hp
      refine ⟨t, List.mem_append_left _ ht, e, ?_⟩
      rw [coef_one_more, if_neg (fun e2 => hne (by rw [e, e2])), Rat.add_zero]
      exact (hr.kept hk).grown hw hg
  · rcases List.mem_append.1 ht with ht | ht
    · obtain ⟨p, hp, e⟩ := h3 t ht
      obtain ⟨q, hq, e2⟩ := (putL_keys (k := (s : Int)) (v := v)).2 p hp
      exact ⟨q, hq, by rw [e2, e]⟩
    · rw [List.mem_singleton] at ht
      subst ht
      exact (putL_keys (k := (s : Int)) (v := v)).1
/-- The terms of a polynomial, as they lie in memory. -/
def polT (p : Pol) : List Trm := p.map fun t => ((t.1 : Int), canR t.2)
def trmP (t : Trm) : Nat × Rat := (t.1.toNat, ratOf t.2)
theorem polT_len (p : Pol) : (polT p).length = p.length := List.length_map ..
/-- What the loop over the map has collected. -/
def Coll (l : Pol) (L : List (Int × Value)) (left : Int → Bool) (M : List Trm) : Prop :=
  (∀ t ∈ M, ∃ s : Nat, t = ((s : Int), canR (coef l s)) ∧ coef l s ≠ 0 ∧ left s = false) ∧ (M.map Prod.fst).Nodup ∧ ∀ p ∈ L, left p.1 = false → ∀ s : Nat, p.1 = (s : Int) → coef l s ≠ 0 → ((s : Int), canR (coef l s)) ∈ M
theorem Coll.start (l : Pol) (L : List (Int × Value)) : Coll l L (fun _ => true) [] := ⟨(fun t ht => by cases ht), List.nodup_nil, fun p _ h => by simp at h⟩
theorem Coll.skip {l : Pol} {L : List (Int × Value)} {left : Int → Bool} {M : List Trm} (h : Coll l L left M) {s : Nat} (hz : coef l s = 0) : Coll l L (fun k => left k && !(k == (s : Int))) M := by
  obtain ⟨h1, h2, h3⟩ := h
  refine ⟨fun t ht => ?_, h2, fun p hp hl x hx hc => ?_⟩
  · obtain ⟨x, e, hc, hl⟩ := h1 t ht
    exact ⟨x, e, hc, by show (left (x : Int) && !((x : Int) == (s : Int))) = false; rw [hl]; rfl⟩
  · refine h3 p hp ?_ x hx hc
    have hl : (left p.1 && !(p.1 == (s : Int))) = false := hl
    by_cases e : p.1 = (s : Int)
    · rw [hx] at e
      have e : x = s := by omega
      rw [e] at hc; exact absurd hz hc
    · have e2 : (p.1 == (s : Int)) = false := by simpa using e
      rw [e2] at hl; simpa using hl
theorem Coll.more {l : Pol} {L : List (Int × Value)} {left : Int → Bool} {M : List Trm} (h : Coll l L left M) {s : Nat} (hz : coef l s ≠ 0) (hs : left s = true) : Coll l L (fun k => left k && !(k == (s : Int))) (M ++ [((s : Int), canR (coef l s))]) := by
  obtain ⟨h1, h2, h3⟩ := h
  refine ⟨fun t ht => ?_, ?_, fun p hp hl x hx hc => ?_⟩
  · rcases List.mem_append.1 ht with ht | ht
    · obtain ⟨x, e, hc, hl⟩ := h1 t ht
      exact ⟨x, e, hc, by show (left (x : Int) && !((x : Int) == (s : Int))) = false; rw [hl]; rfl⟩
    · rw [List.mem_singleton] at ht
      exact ⟨s, ht, hz, by show (left (s : Int) && !((s : Int) == (s : Int))) = false; simp⟩
  · rw [List.map_append, List.nodup_append]
    refine ⟨h2, by simp, fun a ha b hb => ?_⟩
    rw [List.map_cons, List.map_nil, List.mem_singleton] at hb
    obtain ⟨t, ht, rfl⟩ := List.mem_map.1 ha
    obtain ⟨x, e, _, hl⟩ := h1 t ht
    rw [hb, e]
    intro e2
    have e2 : x = s := by
      have e3 : (x : Int) = (s : Int) := e2
      omega
    rw [e2, hs] at hl; cases hl
  · have hl : (left p.1 && !(p.1 == (s : Int))) = false := hl
    by_cases e : p.1 = (s : Int)
    · rw [hx] at e
      have e : x = s := by omega
      rw [e]; simp
    · have e2 : (p.1 == (s : Int)) = false := by simpa using e
      rw [e2] at hl
      exact List.mem_append_left _ (h3 p hp (by simpa using hl) x hx hc)
/-- All entries collected, in ascending order: the polynomial. -/
theorem Coll.done {l : Pol} {L : List (Int × Value)} {left : Int → Bool} {M M' : List Trm} (h : Coll l L left M) (h0 : ∀ p ∈ L, left p.1 = false) (hk : ∀ t ∈ l, ∃ p ∈ L, p.1 = (t.1 : Int)) (hp : ∀ t, t ∈ M' ↔ t ∈ M) (ho : M'.Pairwise fun a b => ltK a.1.toNat b.1.toNat) :
    M' = polT (normP l) := by
  obtain ⟨h1, _, h3⟩ := h
  have hM : ∀ t ∈ M', ∃ s : Nat, t = ((s : Int), canR (coef l s)) ∧ coef l s ≠ 0 := fun t ht => let ⟨s, e, hc, _⟩ := h1 t ((hp t).1 ht); ⟨s, e, hc⟩
  have hT : polT (M'.map trmP) = M' := by
    unfold polT
    rw [List.map_map]
    refine (List.map_congr_left fun t ht => ?_).trans (List.map_id M')
    obtain ⟨s, rfl, _⟩ := hM t ht
    show (((((s : Int).toNat : Nat)) : Int), canR (ratOf (canR (coef l s)))) = _
    rw [ratOf_can]; rfl
  have hC : CanP (M'.map trmP) := by
    refine ⟨List.pairwise_map.2 ho, fun u hu => ?_⟩
    obtain ⟨t, ht, rfl⟩ := List.mem_map.1 hu
    obtain ⟨s, rfl, hc⟩ := hM t ht
    show ratOf (canR (coef l s)) ≠ 0
    rw [ratOf_can]; exact hc
  have hco : ∀ s, coef (M'.map trmP) s = coef l s := by
    intro s
    by_cases hs : coef l s = 0
    · rw [hs]
      refine coef_none fun u hu e => ?_
      obtain ⟨t, ht, rfl⟩ := List.mem_map.1 hu
      obtain ⟨x, rfl, hc⟩ := hM t ht
      have e : x = s := by simpa [trmP] using e
      rw [e] at hc; exact hc hs
    · have hex : ∃ t ∈ l, t.1 = s := by
        refine Classical.byContradiction fun hn => hs (coef_none fun t ht e => hn ⟨t, ht, e⟩)
      obtain ⟨t, ht, e⟩ := hex
      obtain ⟨p, hpL, e2⟩ := hk t ht
      rw [e] at e2
      have hm : trmP ((s : Int), canR (coef l s)) ∈ M'.map trmP := List.mem_map.2 ⟨_, (hp _).2 (h3 p hpL (h0 p hpL) s e2 hs), rfl⟩
      have := coef_mem hC hm
      have e3 : (trmP ((s : Int), canR (coef l s))).1 = s := by simp [trmP]
      rw [e3] at this
      rw [this]
      show ratOf (canR (coef l s)) = _
      rw [ratOf_can]
  rw [← hT, pol_unique hC (normP_can l) fun s => by rw [hco, normP_coef]]
end Go.Proofs.YtpaedhlacbpmpaaGreatDoor

/-
  Walks: Check of polynomials, of polynomial and of the reference. Printed by gen_PA2.py.
-/
namespace Go.Proofs.YtpaedhlacbpmpaaGreatDoor
open Go.RowKit

/-- The error of the term at i. -/
def nodeT (ts : List Trm) (i : Nat) : Nat :=
  if decide (0 ≤ (ts.getD i default).1 ∧ (ts.getD i default).1 ≤ 16777215) = false then 3 else if validR (ts.getD i default).2 = false then 3 else if sgnR (ratOf (ts.getD i default).2) = 0 then 8
  else if 0 < i ∧ ¬ ltK (ts.getD (i - 1) default).1.toNat (ts.getD i default).1.toNat then 13 else 0
/-- The first error from i on. -/
def firstT (ts : List Trm) : Nat → Nat → Nat
  | 0, _ => 0
  | k + 1, i => if nodeT ts i = 0 then firstT ts k (i + 1) else nodeT ts i
/-- The number of Check's error. -/
def chkT (ts : List Trm) : Nat := if 4096 < ts.length then 4 else firstT ts ts.length 0
theorem firstT_zero {ts : List Trm} : ∀ {k i : Nat}, firstT ts k i = 0 → ∀ j, i ≤ j → j < i + k → nodeT ts j = 0 := by
  intro k
  induction k with
  | zero => intro i _ j h1 h2; omega
  | succ k ih =>
    intro i h j h1 h2
    unfold firstT at h
    by_cases e : nodeT ts i = 0
    · rw [if_pos e] at h
      by_cases hij : i = j
      · rw [← hij]; exact e
      · exact ih h j (by omega) (by omega)
    · rw [if_neg e] at h; exact absurd h e
theorem cmp_ge {a b : Nat} : 0 ≤ cmpK a b ↔ ¬ ltK a b := by
  unfold cmpK ltK
  repeat' split
  all_goals omega
theorem cmpR_ge {a b : Nat} : 0 ≤ cmpR a b ↔ ¬ ltK a b := by
  unfold cmpR
  split
  · rename_i h; subst h; exact ⟨fun _ => ltK_irr a, fun _ => by omega⟩
  · split
    · rename_i h; exact ⟨fun h2 => by omega, fun h2 => absurd h h2⟩
    · rename_i h; exact ⟨fun _ => h, fun _ => by omega⟩
theorem trm4_at {w : World} {g : Nat} {e : TypeId} {x y z u : Value} (h : RowAt w g e [x, y, z, u]) : w.cell? ⟨g, 0, none⟩ = some x ∧ w.cell? ⟨g, 1, none⟩ = some y ∧ w.cell? ⟨g, 2, none⟩ = some z ∧ w.cell? ⟨g, 3, none⟩ = some u := by
  have h0 := h.cell (i := 0) (by simp)
  have h1 := h.cell (i := 1) (by simp)
  have h2 := h.cell (i := 2) (by simp)
  have h3 := h.cell (i := 3) (by simp)
  exact ⟨by simpa using h0, by simpa using h1, by simpa using h2, by simpa using h3⟩
set_option maxRecDepth 100000 in
set_option maxHeartbeats 16000000 in
theorem pcheck20_any (v : Value) (ts : List Trm) (w : World) (hv : TrmsAt w v ts) (hs : ∀ t ∈ ts, t.2.Short 34359738368) : Calls Tryz.prog 21 #[v] w fun e w' => e = .returned (errV (chkT ts)) ∧ Kept w w' := by
  obtain ⟨a, c, rfl⟩ := hv.shape
  obtain ⟨n, hn⟩ : ∃ n, n = ts.length := ⟨_, rfl⟩
  rw [← hn] at hv ⊢
  have hbig : n ≤ 140737488355328 := by have := hv.len; omega
  obtain ⟨Q, hQ⟩ : ∃ Q, Q = chkT ts := ⟨_, rfl⟩
  rw [← hQ]
  unfold chkT at hQ
  rw [← hn] at hQ
  have HV := Lib.hid hv
  have HN := Lib.hid hn
  have HS := Lib.hid hs
  have HQ := Lib.hid hQ
  clear hv hn hs hQ
  go_enter Tryz.func21, Tryz.ntmps21
  by_cases h4 : 4096 < n
  · have h4i : (4096 : Int) < (n : Int) := by omega
    have HQV : Hid (Q = 4) := Lib.hid (by have h := HQ.out; rw [if_pos h4] at h; exact h)
    go_wp2
    go_ret
    exact ⟨by rw [HQV.out]; rfl, Kept.refl _⟩
  · have h4i : ¬ (4096 : Int) < (n : Int) := by omega
    have HQ1 : Hid (Q = firstT ts n 0) := Lib.hid (by have h := HQ.out; rw [if_neg h4] at h; exact h)
    go_wp2_with fail
    go_loopg [11] n (fun kx s0 wr => ∃ k : Nat, k ≤ n ∧ s0 = .int .i64 k ∧ n - k ≤ kx ∧ Hid (Q = firstT ts (n - k) k) ∧ Hid (0 < k → nodeT ts (k - 1) = 0) ∧ Hid (Kept w wr))
    case atStart => exact ⟨0, Nat.zero_le _, rfl, by omega, HQ1, Lib.hid (fun h => by omega), Lib.hid (Kept.refl _)⟩
    case round =>
      obtain ⟨k, hk, rfl, hkx, HQ2, HPV, HKr⟩ := hrel
      obtain ⟨wi, rfl⟩ : ∃ wi : World, wi = wr := ⟨_, rfl⟩
      by_cases hlt : k < n
      · have hkn : (k : Int) < (n : Int) := by omega
        have hkl : k < ts.length := by have := HN.out; omega
        have HQ3 : Hid (Q = if nodeT ts k = 0 then firstT ts (n - (k + 1)) (k + 1) else nodeT ts k) := Lib.hid (by
          have h := HQ2.out
          rw [show n - k = (n - (k + 1)) + 1 by omega] at h
          exact h)
        obtain ⟨b, o, y1, y2, y3, a1, c1, a2, c2, rfl, z0, z1, z2, z3, HRK⟩ := (HV.out.kept HKr.out).read k hkl
        obtain ⟨s, hsd⟩ : ∃ s, s = (ts.getD k default).1 := ⟨_, rfl⟩
        obtain ⟨r, hrd⟩ : ∃ r, r = (ts.getD k default).2 := ⟨_, rfl⟩
        have hsh : r.Short 34359738368 := by
          have e : ts.getD k default = ts[k] := by simp [List.getD_eq_getElem?_getD, hkl]
          rw [hrd, e]; exact HS.out _ (List.getElem_mem _)
        have HNO : Hid (nodeT ts k = if decide (0 ≤ s ∧ s ≤ 16777215) = false then 3 else if validR r = false then 3 else if sgnR (ratOf r) = 0 then 8 else if 0 < k ∧ ¬ ltK (ts.getD (k - 1) default).1.toNat s.toNat then 13 else 0) := Lib.hid (by rw [hsd, hrd]; rfl)
        rw [← hrd] at HRK
        rw [← hsd] at z0
        have HSD := Lib.hid hsd
        obtain ⟨dv, hdv⟩ : ∃ dv, dv = decide (0 ≤ s ∧ s ≤ 16777215) := ⟨_, rfl⟩
        obtain ⟨vr, hvr⟩ : ∃ vr, vr = validR r := ⟨_, rfl⟩
        obtain ⟨S, hS⟩ : ∃ S, S = sgnR (ratOf r) := ⟨_, rfl⟩
        rw [← hdv, ← hvr, ← hS] at HNO
        have HSV : Hid (∀ W, Calls Tryz.prog 62 #[.int .i64 s] W fun e w' => e = .returned (.bool dv) ∧ W = w') := Lib.hid fun W => by rw [hdv]; exact valid_any s W
        have HRV : Hid (∀ W u, RatAt W u r → Calls Tryz.prog 63 #[u] W fun e w' => e = .returned (.bool vr) ∧ Kept W w') := Lib.hid fun W u hu => by
          rw [hvr]; exact ratvalid_any u r W hu ⟨Nat.le_trans hsh.1 (by omega), Nat.le_trans hsh.2 (by omega)⟩
        have HRS : Hid (∀ W u, RatAt W u r → Calls Tryz.prog 37 #[u] W fun e w' => e = .returned (.int .i64 S) ∧ Kept W w') := Lib.hid fun W u hu => by
          rw [hS]; exact rsign_any u r W hu ⟨Nat.le_trans hsh.1 (by omega), Nat.le_trans hsh.2 (by omega)⟩
        have HDV := Lib.hid hdv
        clear hdv hvr hS hsd hrd hsh
        obtain ⟨w1, hw1⟩ : ∃ w1, w1 = wi.alloc (.cells #[.int .i64 s, .bool y1, .slice a1 y2 c1, .slice a2 y3 c2] 83) := ⟨_, rfl⟩
        have HX1 : Hid (RowAt w1 wi.heap.size 83 [.int .i64 s, .bool y1, .slice a1 y2 c1, .slice a2 y3 c2]) := Lib.hid (by rw [hw1]; exact RowAt.made wi #[.int .i64 s, .bool y1, .slice a1 y2 c1, .slice a2 y3 c2] 83)
        have HK1 : Hid (Kept wi w1) := Lib.hid (by rw [hw1]; exact (Kept.refl wi).alloc _)
        have HW1 := Lib.hid hw1
        clear hw1
        cases dv with
        | false =>
          have HQV : Hid (Q = 3) := Lib.hid (by have h := HQ3.out; rw [show nodeT ts k = 3 by rw [HNO.out, if_pos rfl], if_neg (by decide)] at h; exact h)
          go_wp2_with fail
          rw [← HW1.out]
          refine (HSV.out _).mono ?_
          rintro e w2 ⟨rfl, rfl⟩
          go_wp2
          go_ret
          exact ⟨by rw [HQV.out]; rfl, HKr.out.trans HK1.out⟩
        | true =>
          go_wp2_with fail
          rw [← HW1.out]
          refine (HSV.out _).mono ?_
          rintro e w2 ⟨rfl, rfl⟩
          clear z0 z1 z2 z3
          obtain ⟨x0, x1, x2, x3⟩ := trm4_at HX1.out
          go_wp2_with fail
          refine (HRV.out _ _ (HRK.out.kept HK1.out)).mono ?_
          rintro e w3 ⟨rfl, hk3⟩
          have HK3 := Lib.hid (HK1.out.trans hk3)
          have HX3 := Lib.hid (HX1.out.kept hk3)
          clear hk3 x0 x1 x2 x3
          obtain ⟨x0, x1, x2, x3⟩ := trm4_at HX3.out
          cases vr with
          | false =>
            have HQV : Hid (Q = 3) := Lib.hid (by have h := HQ3.out; rw [show nodeT ts k = 3 by rw [HNO.out, if_neg (by simp), if_pos rfl], if_neg (by decide)] at h; exact h)
            go_wp2
            go_ret
            exact ⟨by rw [HQV.out]; rfl, HKr.out.trans HK3.out⟩
          | true =>
            go_wp2_with fail
            refine (HRS.out _ _ (HRK.out.kept HK3.out)).mono ?_
            rintro e w4 ⟨rfl, hk4⟩
            have HK4 := Lib.hid (HK3.out.trans hk4)
            have HX4 := Lib.hid (HX3.out.kept hk4)
            clear hk4 x0 x1 x2 x3
            by_cases hS0 : S = 0
            · have hSb : (S == 0) = true := by rw [hS0]; rfl
              have HQV : Hid (Q = 8) := Lib.hid (by have h := HQ3.out; rw [show nodeT ts k = 8 by rw [HNO.out, if_neg (by simp), if_neg (by simp), if_pos hS0], if_neg (by decide)] at h; exact h)
              go_wp2
              go_ret
              exact ⟨by rw [HQV.out]; rfl, HKr.out.trans HK4.out⟩
            · have hSb : (S == 0) = false := by rw [beq_eq_false_iff_ne]; exact hS0
              have HNO2 : Hid (nodeT ts k = if 0 < k ∧ ¬ ltK (ts.getD (k - 1) default).1.toNat s.toNat then 13 else 0) := Lib.hid (by have h := HNO.out; rw [if_neg (by simp), if_neg (by simp), if_neg hS0] at h; exact h)
              have hsr : 0 ≤ s ∧ s ≤ 16777215 := of_decide_eq_true HDV.out.symm
              obtain ⟨x0, x1, x2, x3⟩ := trm4_at HX4.out
              go_upto_region 10 with fail
              by_cases hk0 : k = 0
              · have hki : ¬ (0 : Int) < (k : Int) := by omega
                have hkd : decide ((0 : Int) < (k : Int)) = false := decide_eq_false hki
                have HNZ : Hid (nodeT ts k = 0) := Lib.hid (by rw [HNO2.out, if_neg (by omega)])
                have HQN : Hid (Q = firstT ts (n - (k + 1)) (k + 1)) := Lib.hid (by have h := HQ3.out; rw [if_pos HNZ.out] at h; exact h)
                go_quiet (fail)
                go_wp2_with fail
                go_roundg (n - (k + 1))
                case measure => omega
                case rel => exact ⟨k + 1, by omega, by go_num, Nat.le_refl _, HQN, Lib.hid (fun _ => HNZ.out), Lib.hid (HKr.out.trans (by repeat (with_reducible first | exact HK4.out | apply Kept.drewN | apply Kept.drew)))⟩
              · obtain ⟨j, hj⟩ : ∃ j, k = j + 1 := ⟨k - 1, by omega⟩
                have hkj : k - 1 = j := by omega
                have hki : (0 : Int) < (k : Int) := by omega
                have hkd : decide ((0 : Int) < (k : Int)) = true := decide_eq_true hki
                have hkd2 : decide (0 < k) = true := decide_eq_true (by omega)
                have hjl : j < ts.length := by omega
                have hpz := HPV.out (by omega)
                rw [hkj] at hpz HNO2
                obtain ⟨b9, o9, _, _, _, _, _, _, _, he9, q0, _, _, _, _⟩ := (HV.out.kept (HKr.out.trans HK4.out)).read j hjl
                cases he9
                obtain ⟨sj, hsj⟩ : ∃ sj, sj = (ts.getD j default).1 := ⟨_, rfl⟩
                rw [← hsj] at q0 HNO2
                have hsjr : 0 ≤ sj ∧ sj ≤ 16777215 := by
                  unfold nodeT at hpz
                  rw [← hsj] at hpz
                  by_cases hd : 0 ≤ sj ∧ sj ≤ 16777215
                  · exact hd
                  · rw [decide_eq_false hd, if_pos rfl] at hpz; cases hpz
                obtain ⟨xN, rfl⟩ : ∃ m : Nat, sj = (m : Int) := ⟨sj.toNat, by omega⟩
                obtain ⟨yN, rfl⟩ : ∃ m : Nat, s = (m : Int) := ⟨s.toNat, by omega⟩
                have HCM : Hid (∀ W, Calls Tryz.prog 64 #[.int .i64 xN, .int .i64 yN] W fun e w' => e = .returned (.int .i64 (cmpK xN yN)) ∧ ∃ q, w' = W.drewN q) := Lib.hid fun W => (compare_any (a := xN) (b := yN) (by unfold Mk; omega) (by unfold Mk; omega) W).mono fun e w' h => ⟨h.1, 0, h.2.symm⟩
                have hG := cmp_ge (a := xN) (b := yN)
                obtain ⟨cv, hcv⟩ : ∃ cv, cv = cmpK xN yN := ⟨_, rfl⟩
                rw [← hcv] at HCM hG
                have e1 : (k : Int) - 1 = (j : Int) := by omega
                have ew : IntKind.i64.wrap (j : Int) = (j : Int) := by rw [IntKind.wrap_i64]; omega
                have hjn : (j : Int) < (n : Int) := by omega
                have hj0 : (0 : Int) ≤ (j : Int) := by omega
                clear hcv hpz hsj hkj hj HPV
                by_cases hb : 0 ≤ cv
                · have hbd : decide (0 ≤ cv) = true := decide_eq_true hb
                  have hz : nodeT ts k = 13 := by rw [HNO2.out, if_pos ⟨by omega, by simpa using hG.1 hb⟩]
                  have HQV : Hid (Q = 13) := Lib.hid (by have h := HQ3.out; rw [hz, if_neg (by decide)] at h; exact h)
                  clear hz hG
                  go_quiet ((go_at_call 64; refine Calls.quiet_of (HCM.out _)))
                  go_wp2
                  go_ret
                  exact ⟨by rw [HQV.out]; rfl, HKr.out.trans (by repeat (with_reducible first | exact HK4.out | apply Kept.drewN | apply Kept.drew))⟩
                · have hbd : decide (0 ≤ cv) = false := decide_eq_false hb
                  have HNZ : Hid (nodeT ts k = 0) := Lib.hid (by rw [HNO2.out, if_neg (fun h => hb (hG.2 (by simpa using h.2)))])
                  have HQN : Hid (Q = firstT ts (n - (k + 1)) (k + 1)) := Lib.hid (by have h := HQ3.out; rw [if_pos HNZ.out] at h; exact h)
                  clear hG
                  go_quiet ((go_at_call 64; refine Calls.quiet_of (HCM.out _)))
                  go_wp2_with fail
                  go_roundg (n - (k + 1))
                  case measure => omega
                  case rel => exact ⟨k + 1, by omega, by go_num, Nat.le_refl _, HQN, Lib.hid (fun _ => HNZ.out), Lib.hid (HKr.out.trans (by repeat (with_reducible first | exact HK4.out | apply Kept.drewN | apply Kept.drew)))⟩
      · have hkn : ¬ (k : Int) < (n : Int) := by omega
        have HQV : Hid (Q = 0) := Lib.hid (by have h := HQ2.out; rw [show n - k = 0 by omega] at h; exact h)
        go_wp2
        go_ret
        exact ⟨by rw [HQV.out]; rfl, HKr.out⟩
set_option maxRecDepth 100000 in
set_option maxHeartbeats 16000000 in
theorem refcheck20_any (v : Value) (ts : List Trm) (w : World) (hv : TrmsAt w v ts) (hs : ∀ t ∈ ts, t.2.Short 34359738368) : Calls Tryz.prog 12 #[v] w fun e w' => e = .returned (.int .i64 (chkT ts : Nat)) ∧ Kept w w' := by
  obtain ⟨a, c, rfl⟩ := hv.shape
  obtain ⟨n, hn⟩ : ∃ n, n = ts.length := ⟨_, rfl⟩
  rw [← hn] at hv ⊢
  have hbig : n ≤ 140737488355328 := by have := hv.len; omega
  obtain ⟨Q, hQ⟩ : ∃ Q, Q = chkT ts := ⟨_, rfl⟩
  rw [← hQ]
  unfold chkT at hQ
  rw [← hn] at hQ
  have HV := Lib.hid hv
  have HN := Lib.hid hn
  have HS := Lib.hid hs
  have HQ := Lib.hid hQ
  clear hv hn hs hQ
  go_enter Tryz.func12, Tryz.ntmps12
  by_cases h4 : 4096 < n
  · have h4i : (4096 : Int) < (n : Int) := by omega
    have HQV : Hid (Q = 4) := Lib.hid (by have h := HQ.out; rw [if_pos h4] at h; exact h)
    go_wp2
    go_ret
    exact ⟨by rw [HQV.out]; rfl, Kept.refl _⟩
  · have h4i : ¬ (4096 : Int) < (n : Int) := by omega
    have HQ1 : Hid (Q = firstT ts n 0) := Lib.hid (by have h := HQ.out; rw [if_neg h4] at h; exact h)
    go_wp2_with fail
    go_loopg [10] n (fun kx s0 wr => ∃ k : Nat, k ≤ n ∧ s0 = .int .i64 k ∧ n - k ≤ kx ∧ Hid (Q = firstT ts (n - k) k) ∧ Hid (0 < k → nodeT ts (k - 1) = 0) ∧ Hid (Kept w wr))
    case atStart => exact ⟨0, Nat.zero_le _, rfl, by omega, HQ1, Lib.hid (fun h => by omega), Lib.hid (Kept.refl _)⟩
    case round =>
      obtain ⟨k, hk, rfl, hkx, HQ2, HPV, HKr⟩ := hrel
      obtain ⟨wi, rfl⟩ : ∃ wi : World, wi = wr := ⟨_, rfl⟩
      by_cases hlt : k < n
      · have hkn : (k : Int) < (n : Int) := by omega
        have hkl : k < ts.length := by have := HN.out; omega
        have HQ3 : Hid (Q = if nodeT ts k = 0 then firstT ts (n - (k + 1)) (k + 1) else nodeT ts k) := Lib.hid (by
          have h := HQ2.out
          rw [show n - k = (n - (k + 1)) + 1 by omega] at h
          exact h)
        obtain ⟨b, o, y1, y2, y3, a1, c1, a2, c2, rfl, z0, z1, z2, z3, HRK⟩ := (HV.out.kept HKr.out).read k hkl
        obtain ⟨s, hsd⟩ : ∃ s, s = (ts.getD k default).1 := ⟨_, rfl⟩
        obtain ⟨r, hrd⟩ : ∃ r, r = (ts.getD k default).2 := ⟨_, rfl⟩
        have hsh : r.Short 34359738368 := by
          have e : ts.getD k default = ts[k] := by simp [List.getD_eq_getElem?_getD, hkl]
          rw [hrd, e]; exact HS.out _ (List.getElem_mem _)
        have HNO : Hid (nodeT ts k = if decide (0 ≤ s ∧ s ≤ 16777215) = false then 3 else if validR r = false then 3 else if sgnR (ratOf r) = 0 then 8 else if 0 < k ∧ ¬ ltK (ts.getD (k - 1) default).1.toNat s.toNat then 13 else 0) := Lib.hid (by rw [hsd, hrd]; rfl)
        rw [← hrd] at HRK
        rw [← hsd] at z0
        have HSD := Lib.hid hsd
        obtain ⟨dv, hdv⟩ : ∃ dv, dv = decide (0 ≤ s ∧ s ≤ 16777215) := ⟨_, rfl⟩
        obtain ⟨vr, hvr⟩ : ∃ vr, vr = validR r := ⟨_, rfl⟩
        obtain ⟨S, hS⟩ : ∃ S, S = sgnR (ratOf r) := ⟨_, rfl⟩
        rw [← hdv, ← hvr, ← hS] at HNO
        have HSV : Hid (∀ W, Calls Tryz.prog 50 #[.int .i64 s] W fun e w' => e = .returned (.bool dv) ∧ W = w') := Lib.hid fun W => by rw [hdv]; exact rvalid_any s W
        have HRV : Hid (∀ W u, RatAt W u r → Calls Tryz.prog 51 #[u] W fun e w' => e = .returned (.bool vr) ∧ Kept W w') := Lib.hid fun W u hu => by
          rw [hvr]; exact refvalid_any u r W hu ⟨Nat.le_trans hsh.1 (by omega), Nat.le_trans hsh.2 (by omega)⟩
        have HRS : Hid (∀ W u, RatAt W u r → Calls Tryz.prog 52 #[u] W fun e w' => e = .returned (.int .i64 S) ∧ Kept W w') := Lib.hid fun W u hu => by
          rw [hS]; exact refsign_any u r W hu ⟨Nat.le_trans hsh.1 (by omega), Nat.le_trans hsh.2 (by omega)⟩
        have HDV := Lib.hid hdv
        clear hdv hvr hS hsd hrd hsh
        obtain ⟨w1, hw1⟩ : ∃ w1, w1 = wi.alloc (.cells #[.int .i64 s, .bool y1, .slice a1 y2 c1, .slice a2 y3 c2] 83) := ⟨_, rfl⟩
        have HX1 : Hid (RowAt w1 wi.heap.size 83 [.int .i64 s, .bool y1, .slice a1 y2 c1, .slice a2 y3 c2]) := Lib.hid (by rw [hw1]; exact RowAt.made wi #[.int .i64 s, .bool y1, .slice a1 y2 c1, .slice a2 y3 c2] 83)
        have HK1 : Hid (Kept wi w1) := Lib.hid (by rw [hw1]; exact (Kept.refl wi).alloc _)
        have HW1 := Lib.hid hw1
        clear hw1
        cases dv with
        | false =>
          have HQV : Hid (Q = 3) := Lib.hid (by have h := HQ3.out; rw [show nodeT ts k = 3 by rw [HNO.out, if_pos rfl], if_neg (by decide)] at h; exact h)
          go_wp2_with fail
          rw [← HW1.out]
          refine (HSV.out _).mono ?_
          rintro e w2 ⟨rfl, rfl⟩
          go_wp2
          go_ret
          exact ⟨by rw [HQV.out]; rfl, HKr.out.trans HK1.out⟩
        | true =>
          go_wp2_with fail
          rw [← HW1.out]
          refine (HSV.out _).mono ?_
          rintro e w2 ⟨rfl, rfl⟩
          clear z0 z1 z2 z3
          obtain ⟨x0, x1, x2, x3⟩ := trm4_at HX1.out
          go_wp2_with fail
          refine (HRV.out _ _ (HRK.out.kept HK1.out)).mono ?_
          rintro e w3 ⟨rfl, hk3⟩
          have HK3 := Lib.hid (HK1.out.trans hk3)
          have HX3 := Lib.hid (HX1.out.kept hk3)
          clear hk3 x0 x1 x2 x3
          obtain ⟨x0, x1, x2, x3⟩ := trm4_at HX3.out
          cases vr with
          | false =>
            have HQV : Hid (Q = 3) := Lib.hid (by have h := HQ3.out; rw [show nodeT ts k = 3 by rw [HNO.out, if_neg (by simp), if_pos rfl], if_neg (by decide)] at h; exact h)
            go_wp2
            go_ret
            exact ⟨by rw [HQV.out]; rfl, HKr.out.trans HK3.out⟩
          | true =>
            go_wp2_with fail
            refine (HRS.out _ _ (HRK.out.kept HK3.out)).mono ?_
            rintro e w4 ⟨rfl, hk4⟩
            have HK4 := Lib.hid (HK3.out.trans hk4)
            have HX4 := Lib.hid (HX3.out.kept hk4)
            clear hk4 x0 x1 x2 x3
            by_cases hS0 : S = 0
            · have hSb : (S == 0) = true := by rw [hS0]; rfl
              have HQV : Hid (Q = 8) := Lib.hid (by have h := HQ3.out; rw [show nodeT ts k = 8 by rw [HNO.out, if_neg (by simp), if_neg (by simp), if_pos hS0], if_neg (by decide)] at h; exact h)
              go_wp2
              go_ret
              exact ⟨by rw [HQV.out]; rfl, HKr.out.trans HK4.out⟩
            · have hSb : (S == 0) = false := by rw [beq_eq_false_iff_ne]; exact hS0
              have HNO2 : Hid (nodeT ts k = if 0 < k ∧ ¬ ltK (ts.getD (k - 1) default).1.toNat s.toNat then 13 else 0) := Lib.hid (by have h := HNO.out; rw [if_neg (by simp), if_neg (by simp), if_neg hS0] at h; exact h)
              have hsr : 0 ≤ s ∧ s ≤ 16777215 := of_decide_eq_true HDV.out.symm
              obtain ⟨x0, x1, x2, x3⟩ := trm4_at HX4.out
              go_upto_region 10 with fail
              by_cases hk0 : k = 0
              · have hki : ¬ (0 : Int) < (k : Int) := by omega
                have hkd : decide ((0 : Int) < (k : Int)) = false := decide_eq_false hki
                have HNZ : Hid (nodeT ts k = 0) := Lib.hid (by rw [HNO2.out, if_neg (by omega)])
                have HQN : Hid (Q = firstT ts (n - (k + 1)) (k + 1)) := Lib.hid (by have h := HQ3.out; rw [if_pos HNZ.out] at h; exact h)
                go_quiet (fail)
                go_wp2_with fail
                go_roundg (n - (k + 1))
                case measure => omega
                case rel => exact ⟨k + 1, by omega, by go_num, Nat.le_refl _, HQN, Lib.hid (fun _ => HNZ.out), Lib.hid (HKr.out.trans (by repeat (with_reducible first | exact HK4.out | apply Kept.drewN | apply Kept.drew)))⟩
              · obtain ⟨j, hj⟩ : ∃ j, k = j + 1 := ⟨k - 1, by omega⟩
                have hkj : k - 1 = j := by omega
                have hki : (0 : Int) < (k : Int) := by omega
                have hkd : decide ((0 : Int) < (k : Int)) = true := decide_eq_true hki
                have hkd2 : decide (0 < k) = true := decide_eq_true (by omega)
                have hjl : j < ts.length := by omega
                have hpz := HPV.out (by omega)
                rw [hkj] at hpz HNO2
                obtain ⟨b9, o9, _, _, _, _, _, _, _, he9, q0, _, _, _, _⟩ := (HV.out.kept (HKr.out.trans HK4.out)).read j hjl
                cases he9
                obtain ⟨sj, hsj⟩ : ∃ sj, sj = (ts.getD j default).1 := ⟨_, rfl⟩
                rw [← hsj] at q0 HNO2
                have hsjr : 0 ≤ sj ∧ sj ≤ 16777215 := by
                  unfold nodeT at hpz
                  rw [← hsj] at hpz
                  by_cases hd : 0 ≤ sj ∧ sj ≤ 16777215
                  · exact hd
                  · rw [decide_eq_false hd, if_pos rfl] at hpz; cases hpz
                obtain ⟨xN, rfl⟩ : ∃ m : Nat, sj = (m : Int) := ⟨sj.toNat, by omega⟩
                obtain ⟨yN, rfl⟩ : ∃ m : Nat, s = (m : Int) := ⟨s.toNat, by omega⟩
                have HCM : Hid (∀ W, Calls Tryz.prog 53 #[.int .i64 xN, .int .i64 yN] W fun e w' => e = .returned (.int .i64 (cmpR xN yN)) ∧ ∃ q, w' = W.drewN q) := Lib.hid fun W => (rcompare_any (a := xN) (b := yN) (by unfold Mk; omega) (by unfold Mk; omega) W).mono fun e w' h => ⟨h.1, 0, h.2.symm⟩
                have hG := cmpR_ge (a := xN) (b := yN)
                obtain ⟨cv, hcv⟩ : ∃ cv, cv = cmpR xN yN := ⟨_, rfl⟩
                rw [← hcv] at HCM hG
                have e1 : (k : Int) - 1 = (j : Int) := by omega
                have ew : IntKind.i64.wrap (j : Int) = (j : Int) := by rw [IntKind.wrap_i64]; omega
                have hjn : (j : Int) < (n : Int) := by omega
                have hj0 : (0 : Int) ≤ (j : Int) := by omega
                clear hcv hpz hsj hkj hj HPV
                by_cases hb : 0 ≤ cv
                · have hbd : decide (0 ≤ cv) = true := decide_eq_true hb
                  have hz : nodeT ts k = 13 := by rw [HNO2.out, if_pos ⟨by omega, by simpa using hG.1 hb⟩]
                  have HQV : Hid (Q = 13) := Lib.hid (by have h := HQ3.out; rw [hz, if_neg (by decide)] at h; exact h)
                  clear hz hG
                  go_quiet ((go_at_call 53; refine Calls.quiet_of (HCM.out _)))
                  go_wp2
                  go_ret
                  exact ⟨by rw [HQV.out]; rfl, HKr.out.trans (by repeat (with_reducible first | exact HK4.out | apply Kept.drewN | apply Kept.drew))⟩
                · have hbd : decide (0 ≤ cv) = false := decide_eq_false hb
                  have HNZ : Hid (nodeT ts k = 0) := Lib.hid (by rw [HNO2.out, if_neg (fun h => hb (hG.2 (by simpa using h.2)))])
                  have HQN : Hid (Q = firstT ts (n - (k + 1)) (k + 1)) := Lib.hid (by have h := HQ3.out; rw [if_pos HNZ.out] at h; exact h)
                  clear hG
                  go_quiet ((go_at_call 53; refine Calls.quiet_of (HCM.out _)))
                  go_wp2_with fail
                  go_roundg (n - (k + 1))
                  case measure => omega
                  case rel => exact ⟨k + 1, by omega, by go_num, Nat.le_refl _, HQN, Lib.hid (fun _ => HNZ.out), Lib.hid (HKr.out.trans (by repeat (with_reducible first | exact HK4.out | apply Kept.drewN | apply Kept.drew)))⟩
      · have hkn : ¬ (k : Int) < (n : Int) := by omega
        have HQV : Hid (Q = 0) := Lib.hid (by have h := HQ2.out; rw [show n - k = 0 by omega] at h; exact h)
        go_wp2
        go_ret
        exact ⟨by rw [HQV.out]; rfl, HKr.out⟩
end Go.Proofs.YtpaedhlacbpmpaaGreatDoor

/-
  slices.SortFunc at terms: its functions laid, its closure, a row of terms of the call's own is sorted. Printed by gen_PB3.py.
-/
namespace Go.Proofs.YtpaedhlacbpmpaaGreatDoor
open Go.Shelf Go.RowKit Go.Lib Go.Sort

def trmLays_ren : Go.Shelf.Ren := ⟨fun | 6 => 97 | 15 => 111 | 14 => 128 | 28 => 132 | 29 => 139 | 20 => 148 | 21 => 149 | 22 => 150 | 23 => 151 | 24 => 152 | 25 => 153 | 26 => 154 | 27 => 155 | 46 => 162 | 47 => 163 | 48 => 164 | 49 => 165 | 50 => 166 | 57 => 169 | n => n, fun | 22 => 22 | 24 => 83 | 25 => 124 | 3 => 3 | 39 => 128 | 0 => 0 | 53 => 34 | 55 => 127 | 4 => 4 | 46 => 172 | 45 => 171 | 50 => 176 | 5 => 5 | 9 => 9 | 66 => 184 | 70 => 188 | 76 => 191 | 77 => 192 | n => n, fun | n => n⟩
set_option maxRecDepth 100000 in
theorem trmLays : Go.Proofs.SlLaysF0.n6 Tryz.prog trmLays_ren := {
  mixed := by kernel_rfl
  f6 := ⟨Tryz.f97.name, by decide, Tryz.func97.trans (congrArg some (by kernel_rfl))⟩
  f14 := ⟨Tryz.f128.name, by decide, Tryz.func128.trans (congrArg some (by kernel_rfl))⟩
  f15 := Tryz.func111.trans (congrArg some (by kernel_rfl))
  f20 := ⟨Tryz.f148.name, by decide, Tryz.func148.trans (congrArg some (by kernel_rfl))⟩
  f21 := ⟨Tryz.f149.name, by decide, Tryz.func149.trans (congrArg some (by kernel_rfl))⟩
  f22 := ⟨Tryz.f150.name, by decide, Tryz.func150.trans (congrArg some (by kernel_rfl))⟩
  f23 := ⟨Tryz.f151.name, by decide, Tryz.func151.trans (congrArg some (by kernel_rfl))⟩
  f24 := ⟨Tryz.f152.name, by decide, Tryz.func152.trans (congrArg some (by kernel_rfl))⟩
  f25 := ⟨Tryz.f153.name, by decide, Tryz.func153.trans (congrArg some (by kernel_rfl))⟩
  f26 := ⟨Tryz.f154.name, by decide, Tryz.func154.trans (congrArg some (by kernel_rfl))⟩
  f27 := ⟨Tryz.f155.name, by decide, Tryz.func155.trans (congrArg some (by kernel_rfl))⟩
  f28 := Tryz.func132.trans (congrArg some (by kernel_rfl))
  f29 := Tryz.func139.trans (congrArg some (by kernel_rfl))
  f46 := ⟨Tryz.f162.name, by decide, Tryz.func162.trans (congrArg some (by kernel_rfl))⟩
  f47 := Tryz.func163.trans (congrArg some (by kernel_rfl))
  f48 := Tryz.func164.trans (congrArg some (by kernel_rfl))
  f49 := ⟨Tryz.f165.name, by decide, Tryz.func165.trans (congrArg some (by kernel_rfl))⟩
  f50 := ⟨Tryz.f166.name, by decide, Tryz.func166.trans (congrArg some (by kernel_rfl))⟩
  f57 := ⟨Tryz.f169.name, by decide, Tryz.func169.trans (congrArg some (by kernel_rfl))⟩
  t0 := Tryz.underlying0
  a0 := Tryz.isAgg0
  z0 := Tryz.sizeOf0
  v0 := Tryz.zeroValue0
  t3 := Tryz.underlying3
  a3 := Tryz.isAgg3
  z3 := Tryz.sizeOf3
  v3 := Tryz.zeroValue3
  t4 := Tryz.underlying4
  a4 := Tryz.isAgg4
  z4 := Tryz.sizeOf4
  v4 := Tryz.zeroValue4
  t5 := Tryz.underlying5
  a5 := Tryz.isAgg5
  z5 := Tryz.sizeOf5
  v5 := Tryz.zeroValue5
  t9 := Tryz.underlying9
  a9 := Tryz.isAgg9
  z9 := Tryz.sizeOf9
  v9 := Tryz.zeroValue9
  t22 := Tryz.underlying22
  a22 := Tryz.isAgg22
  z22 := Tryz.sizeOf22
  v22 := Tryz.zeroValue22
  t25 := Tryz.underlying124
  a25 := Tryz.isAgg124
  z25 := Tryz.sizeOf124
  v25 := Tryz.zeroValue124
  t39 := Tryz.underlying128
  a39 := Tryz.isAgg128
  z39 := Tryz.sizeOf128
  v39 := Tryz.zeroValue128
  t45 := Tryz.underlying171
  a45 := Tryz.isAgg171
  z45 := Tryz.sizeOf171
  v45 := Tryz.zeroValue171
  t46 := Tryz.underlying172
  a46 := Tryz.isAgg172
  z46 := Tryz.sizeOf172
  v46 := Tryz.zeroValue172
  t50 := Tryz.underlying176
  a50 := Tryz.isAgg176
  z50 := Tryz.sizeOf176
  v50 := Tryz.zeroValue176
  t53 := Tryz.underlying34
  a53 := Tryz.isAgg34
  z53 := Tryz.sizeOf34
  v53 := Tryz.zeroValue34
  t55 := Tryz.underlying127
  a55 := Tryz.isAgg127
  z55 := Tryz.sizeOf127
  v55 := Tryz.zeroValue127
  t66 := Tryz.underlying184
  a66 := Tryz.isAgg184
  z66 := Tryz.sizeOf184
  v66 := Tryz.zeroValue184
  t70 := Tryz.underlying188
  a70 := Tryz.isAgg188
  z70 := Tryz.sizeOf188
  v70 := Tryz.zeroValue188
  t76 := Tryz.underlying191
  a76 := Tryz.isAgg191
  z76 := Tryz.sizeOf191
  v76 := Tryz.zeroValue191
  t77 := Tryz.underlying192
  a77 := Tryz.isAgg192
  z77 := Tryz.sizeOf192
  v77 := Tryz.zeroValue192 }
abbrev SlX := Option Addr × Nat × Nat
/-- A term as its cells: every set is one of at most 24 events. -/
abbrev TrX := Fin 16777216 × Bool × SlX × SlX
def encX (x : TrX) : List Value := [.int .i64 ((x.1.val : Nat) : Int), .bool x.2.1, .slice x.2.2.1.1 x.2.2.1.2.1 x.2.2.1.2.2, .slice x.2.2.2.1 x.2.2.2.2.1 x.2.2.2.2.2]
def cfX (x y : TrX) : Int := cmpK x.1.val y.1.val
theorem cmpK_lt {a b : Nat} : cmpK a b < 0 ↔ ltK a b := by
  have h := cmp_ge (a := a) (b := b)
  constructor
  · intro h1
    exact Classical.byContradiction fun h2 => by have := h.2 h2; omega
  · intro h1
    rcases Int.lt_or_le (cmpK a b) 0 with h2 | h2
    · exact h2
    · exact absurd h1 (h.1 h2)
theorem ltX (x y : TrX) : ltOf cfX x y = true ↔ ltK x.1.val y.1.val := by
  unfold ltOf cfX
  rw [decide_eq_true_iff]; exact cmpK_lt
theorem ltX_f (x y : TrX) : ltOf cfX x y = false ↔ ¬ ltK x.1.val y.1.val := by
  rw [← ltX]; simp
theorem swoX : SWO (ltOf cfX) where
  irrefl x := by rw [ltX_f]; exact ltK_irr _
  trans x y z h1 h2 := by rw [ltX] at *; exact ltK_tr _ _ _ h1 h2
  ntrans x y z h1 h2 := by
    rw [ltX_f] at *
    intro h
    rcases ltK_total y.1.val x.1.val with h3 | h3 | h3
    · exact h2 (ltK_tr _ _ _ h3 h)
    · rw [← h3] at h; exact h2 h
    · exact h1 h3
theorem grow_two20 (W : World) (X Y : Obj) : (W.alloc X).alloc Y = grow (W.drewN 0) #[X, Y] := by
  rw [alloc_eq_grow, alloc_eq_grow]
  show grow (grow W #[X]) #[Y] = _
  rw [grow_grow]; rfl
set_option maxRecDepth 100000 in
theorem trmCmp (x y : TrX) (W : World) : Calls Tryz.prog 98 #[.agg (encX x).toArray, .agg (encX y).toArray] W fun e w' => e = .returned (.int .i64 (cfX x y)) ∧ ∃ q os', w' = grow (W.drewN q) os' := by
  obtain ⟨⟨s, hs⟩, n1, ⟨a1, l1, c1⟩, ⟨a2, l2, c2⟩⟩ := x
  obtain ⟨⟨t, ht⟩, n2, ⟨a3, l3, c3⟩, ⟨a4, l4, c4⟩⟩ := y
  have HCM : Hid (∀ W', Calls Tryz.prog 64 #[.int .i64 s, .int .i64 t] W' fun e w' => e = .returned (.int .i64 (cmpK s t)) ∧ W' = w') := Lib.hid fun W' => compare_any (by unfold Mk; omega) (by unfold Mk; omega) W'
  show Calls _ _ #[.agg #[.int .i64 (s : Int), .bool n1, .slice a1 l1 c1, .slice a2 l2 c2], .agg #[.int .i64 (t : Int), .bool n2, .slice a3 l3 c3, .slice a4 l4 c4]] W fun e w' => e = .returned (.int .i64 (cmpK s t)) ∧ ∃ q os', w' = grow (W.drewN q) os'
  obtain ⟨R, hR⟩ : ∃ R, R = cmpK s t := ⟨_, rfl⟩
  rw [← hR] at HCM ⊢
  clear hR hs ht
  go_enter Tryz.func98, Tryz.ntmps98
  go_wp2_with fail
  refine (HCM.out _).mono ?_
  rintro e w' ⟨rfl, rfl⟩
  go_wp2
  go_ret
  exact ⟨rfl, 0, _, grow_two20 _ _ _⟩
theorem cmpLaysX (blk off size : Nat) (w : World) : CmpLays Tryz.prog 98 #[] encX 4 cfX blk off size w := fun _ _ _ _ x y => trmCmp x y _
theorem oneX (x : TrX) : ∀ v ∈ encX x, v.oneCell' = true := fun v hv => by simp [encX] at hv; rcases hv with rfl | rfl | rfl | rfl <;> rfl
theorem notWX (x : TrX) : ∀ v ∈ encX x, NotW v := fun v hv => by
  simp [encX] at hv
  rcases hv with rfl | rfl | rfl | rfl <;> exact fun z h => by cases h
def slX : Value → SlX
  | .slice a n c => (a, n, c)
  | _ => (none, 0, 0)
/-- The cells of a term. -/
def toX (x : TrV) : TrX := (⟨x.1.1.toNat % 16777216, Nat.mod_lt _ (by decide)⟩, x.1.2.neg, slX x.2.1, slX x.2.2)
theorem enc_toX {w : World} {x : TrV} (h : TrOkV w x) (hs : ∃ s : Nat, x.1.1 = s ∧ s < 16777216) : encX (toX x) = trC x := by
  obtain ⟨⟨z, r⟩, u1, u2⟩ := x
  obtain ⟨s, e, hlt⟩ := hs
  obtain ⟨a1, c1, e1⟩ := h.1.shape
  obtain ⟨a2, c2, e2⟩ := h.2.shape
  have e : z = (s : Int) := e
  have e1 : u1 = .slice a1 r.num.length c1 := e1
  have e2 : u2 = .slice a2 r.den.length c2 := e2
  clear h
  rw [e, e1, e2]
  simp [encX, toX, trC, slX, Nat.mod_eq_of_lt hlt]
theorem perm_map_inv {α β : Type} {f : α → β} : ∀ {l₁ l₂ : List β}, l₁.Perm l₂ → ∀ {l : List α}, l₂ = l.map f → ∃ l' : List α, l'.Perm l ∧ l₁ = l'.map f := by
  intro l₁ l₂ h
  induction h with
  | nil => intro l e; exact ⟨l, .refl _, e⟩
  | cons x h ih =>
    intro l e
    cases l with
    | nil => simp at e
    | cons a l =>
      rw [List.map_cons, List.cons.injEq] at e
      obtain ⟨l', hp, e2⟩ := ih e.2
      exact ⟨a :: l', hp.cons a, by rw [List.map_cons, e.1, e2]⟩
  | swap x y t =>
    intro l e
    cases l with
    | nil => simp at e
    | cons a l =>
      cases l with
      | nil => simp at e
      | cons b l =>
        simp only [List.map_cons, List.cons.injEq] at e
        exact ⟨b :: a :: l, List.Perm.swap a b l, by simp [e.1, e.2.1, e.2.2]⟩
  | trans h1 h2 ih1 ih2 =>
    intro l e
    obtain ⟨m, hm, e2⟩ := ih2 e
    obtain ⟨k, hk, e3⟩ := ih1 e2
    exact ⟨k, hk.trans hm, e3⟩
theorem flat_getX (L : List TrX) : ∀ i (h : i < L.length) j, j < 4 → (L.flatMap encX)[i * 4 + j]? = (encX L[i])[j]? := by
  induction L with
  | nil => intro i h; simp at h
  | cons c L ih =>
    intro i h j hj
    rw [List.flatMap_cons]
    cases i with
    | zero => rw [List.getElem?_append_left (by simp [encX]; omega)]; simp
    | succ i =>
      rw [List.getElem?_append_right (by simp [encX]; omega), show (encX c).length = 4 from rfl, show (i + 1) * 4 + j - 4 = i * 4 + j by omega]
      exact ih i (by simpa using h) j hj
theorem len_flatX (L : List TrX) : (L.flatMap encX).length = L.length * 4 := by
  induction L with
  | nil => rfl
  | cons c L ih => simp [encX, ih]; omega
theorem flatK_listX (L : List TrX) : (flatK encX 4 L.toArray).toList = L.flatMap encX := by
  apply List.ext_getElem?
  intro t
  by_cases h : t < L.length * 4
  · have hi : t / 4 < L.length := by omega
    have e := flat_getX L (t / 4) hi (t % 4) (by omega)
    rw [show t / 4 * 4 + t % 4 = t by omega] at e
    rw [e]
    have e2 : (flatK encX 4 L.toArray)[t]! = (encX L.toArray[t / 4]!)[t % 4]! := get_flatK encX 4 L.toArray t (by simpa using h)
    have e3 : (flatK encX 4 L.toArray).toList[t]? = some (flatK encX 4 L.toArray)[t]! := by
      have hs : t < (flatK encX 4 L.toArray).size := by rw [size_flatK]; simpa using h
      rw [Array.getElem?_toList, Array.getElem?_eq_getElem hs, getElem!_pos _ t hs]
    rw [e3, e2]
    have e4 : L.toArray[t / 4]! = L[t / 4] := by rw [getElem!_pos _ _ (by simpa using hi)]; simp
    rw [e4]
    have h3 : t % 4 < (encX L[t / 4]).length := by show t % 4 < 4; omega
    rw [List.getElem?_eq_getElem h3, getElem!_pos (encX L[t / 4]) (t % 4) h3]
  · rw [List.getElem?_eq_none (by rw [Array.length_toList, size_flatK]; simp; omega), List.getElem?_eq_none (by rw [len_flatX]; omega)]
theorem flat_toX {w : World} {L : List TrV} (h : ∀ x ∈ L, TrOkV w x) (hs : ∀ x ∈ L, ∃ s : Nat, x.1.1 = s ∧ s < 16777216) : (L.map toX).flatMap encX = L.flatMap trC := by
  induction L with
  | nil => rfl
  | cons c L ih =>
    rw [List.map_cons, List.flatMap_cons, List.flatMap_cons, ih (fun x hx => h x (List.mem_cons_of_mem _ hx)) (fun x hx => hs x (List.mem_cons_of_mem _ hx)), enc_toX (h c List.mem_cons_self) (hs c List.mem_cons_self)]
theorem mem_putCells {F : Array Value} {cur : Array Value} {u : Value} (h : u ∈ (putCells id 0 F cur).toList) : u ∈ F.toList ∨ u ∈ cur.toList := by
  unfold putCells at h
  rw [Array.mem_toList_iff, Array.mem_mapIdx] at h
  obtain ⟨i, hi, e⟩ := h
  split at e
  · rename_i hc
    left
    rw [← e]
    have hlt : i - 0 < F.size := by omega
    show F[i - 0]! ∈ F.toList
    rw [getElem!_pos F (i - 0) hlt]
    exact Array.mem_toList_iff.2 (Array.getElem_mem hlt)
  · right
    rw [← e]
    exact Array.mem_toList_iff.2 (Array.getElem_mem hi)
set_option maxRecDepth 100000 in
theorem sortTrms_any (B : Nat) (v : Value) (rs : List Trm) (w : World) (hv : OwnTrms w B v rs) (hs : ∀ t ∈ rs, ∃ s : Nat, t.1 = s ∧ s < 16777216) (hB : B ≤ w.heap.size) :
    Calls Tryz.prog 97 #[v, .func (.func 98) #[] #[]] w fun e w' => e = .returned (.tuple #[]) ∧ ∃ M : List Trm, M.Perm rs ∧ M.Pairwise (fun a b => ¬ ltK b.1.toNat a.1.toNat) ∧ OwnTrms w' B v M ∧ Below B w w' := by
  obtain ⟨L, hL, hv1, hv2, hno, hok⟩ := hv
  have hsL : ∀ x ∈ L, ∃ s : Nat, x.1.1 = s ∧ s < 16777216 := fun x hx => hs x.1 (by rw [← hL]; exact List.mem_map.2 ⟨x, hx, rfl⟩)
  by_cases h0 : L = []
  · subst h0
    have hv4 := hv1
    obtain ⟨_, h2⟩ := hv1
    have : ∃ p c, v = .slice p 0 c := by
      rcases h2 with ⟨h2, _⟩ | ⟨g, cap, cur, h2, _⟩
      · exact ⟨_, _, h2⟩
      · exact ⟨_, cap, by simpa using h2⟩
    obtain ⟨p, c, rfl⟩ := this
    refine (AnyF.slices_SortFunc_none trmLays p c _ w).mono fun e w' h => ?_
    obtain ⟨h3, h4⟩ := h
    subst h4
    rw [List.map_nil] at hL
    subst hL
    exact ⟨h3, [], .refl _, List.Pairwise.nil, ⟨[], rfl, hv4, by simp, hno, fun x hx => by cases hx⟩, Below.refl _ _⟩
  · obtain ⟨h1, h2⟩ := hv1
    rcases h2 with ⟨_, h2⟩ | ⟨g, cap, cur, rfl, hg, hh, hn, hcap, hsz, htk⟩
    · exact absurd (List.eq_nil_of_length_eq_zero h2) h0
    · have hfl := flat_toX hok hsL
      have hXl : (L.map toX).length = L.length := List.length_map ..
      have hH : HoldsK encX 4 w g 0 (L.map toX).toArray := by
        intro j hj
        have hj' : j < L.length * 4 := by rw [size_flatK] at hj; simpa using hj
        refine ⟨?_, by simp [World.frozen?, hh]⟩
        have e1 : (cur.toList.take (L.length * 4))[j]? = (L.flatMap trC)[j]? := by rw [htk]
        rw [List.getElem?_take_of_lt (by omega), ← hfl, ← flatK_listX] at e1
        simp only [World.cell?, hh, Nat.zero_add]
        rw [show cur[j]? = cur.toList[j]? from by simp]
        simp only [Option.isSome_none, Bool.false_eq_true, if_false]
        rw [e1, Array.getElem?_toList, Array.getElem?_eq_getElem hj, getElem!_pos _ j hj]
        rfl
      have hS := AnyQ.slices_SortFunc trmLays 4 Tryz.isAgg83 Tryz.sizeOf83 encX (fun _ => rfl) oneX cfX swoX 98 #[] g 0 cap (L.map toX).toArray w (enters_of Tryz.func98 (by kernel_rfl) rfl) (cmpLaysX _ _ _ _) hH (heap_lt hh) (by simp; omega)
      simp only [List.size_toArray, hXl] at hS
      refine hS.mono fun e w' h => ?_
      obtain ⟨h3, dn, n, os, ⟨hp1, hp2, hp3⟩, hso, h4⟩ := h
      refine ⟨h3, ?_⟩
      clear hS h3
      have hdn : dn.size = L.length := by simpa using hp1
      have hperm : dn.toList.Perm (L.map toX) := by
        have e1 : dn.extract 0 L.length = dn := by rw [← hdn]; simp
        have e2 : (L.map toX).toArray.extract 0 L.length = (L.map toX).toArray := by
          have e3 : (L.map toX).take L.length = L.map toX := List.take_of_length_le (by simp)
          simpa using e3
        rw [e1, e2] at hp3
        simpa using hp3
      obtain ⟨K, hK, eK⟩ := perm_map_inv hperm rfl
      have hKl : K.length = L.length := hK.length_eq
      have hokK : ∀ x ∈ K, TrOkV w x := fun x hx => hok x (hK.mem_iff.1 hx)
      have hsK : ∀ x ∈ K, ∃ s : Nat, x.1.1 = s ∧ s < 16777216 := fun x hx => hsL x (hK.mem_iff.1 hx)
      have hflK := flat_toX hokK hsK
      have hNW : NoW w g := hno g rfl
      have hnf : ∀ u ∈ (flatK encX 4 dn).toList, NotW u := fun u hu => by
        have e := flatK_listX dn.toList
        simp only [Array.toArray_toList] at e
        rw [e] at hu
        obtain ⟨x, _, hx⟩ := List.mem_flatMap.1 hu
        exact notWX x u hx
      subst h4
      have hg1 := heap_putRow (id : Value → Value) w n g 0 (flatK encX 4 dn) hh
      have hps := putCells_take (id : Value → Value) (flatK encX 4 dn) cur (L.length * 4) (by rw [size_flatK, hdn]) (by rw [hsz]; exact Nat.mul_le_mul_right 4 hn)
      have hgh : (grow (putRow id (Sort.ahead w n) g 0 (flatK encX 4 dn)) os).heap[g]? = some (.cells (putCells id 0 (flatK encX 4 dn) cur) 83 (0, 0)) := by
        rw [heap_grow_old _ _ (heap_lt hg1)]; exact hg1
      have hne : ∀ k, k < w.heap.size → k ≠ g → (grow (putRow id (Sort.ahead w n) g 0 (flatK encX 4 dn)) os).heap[k]? = w.heap[k]? := fun k hk hkg => by
        rw [heap_grow_old _ _ (by show k < (w.heap.modify g _).size; simp; omega)]
        exact heap_putRow_ne (id : Value → Value) w n g 0 k _ hkg
      refine ⟨K.map Prod.fst, ?_, ?_, ⟨K, rfl, ?_, by omega, fun g' hg' => ?_, fun x hx => ?_⟩, ?_⟩
      · rw [← hL]; exact hK.map _
      · rw [List.pairwise_map, List.pairwise_iff_getElem]
        intro i j hi hj hij
        have hi' : i < dn.size := by omega
        have hj' : j < dn.size := by omega
        have h := hso i j (Nat.zero_le _) hij (by omega)
        rw [ltX_f, getElem!_pos dn i hi', getElem!_pos dn j hj'] at h
        have ei : dn[i] = toX K[i] := by
          have : dn.toList[i]'(by simpa using hi') = (K.map toX)[i]'(by simpa using hi) := by simp only [eK]
          simpa using this
        have ej : dn[j] = toX K[j] := by
          have : dn.toList[j]'(by simpa using hj') = (K.map toX)[j]'(by simpa using hj) := by simp only [eK]
          simpa using this
        rw [ei, ej] at h
        obtain ⟨s1, e1, h1⟩ := hsK K[i] (List.getElem_mem _)
        obtain ⟨s2, e2, h2⟩ := hsK K[j] (List.getElem_mem _)
        have k1 : (toX K[i]).1.val = K[i].1.1.toNat := by show K[i].1.1.toNat % 16777216 = _; rw [e1]; exact Nat.mod_eq_of_lt h1
        have k2 : (toX K[j]).1.val = K[j].1.1.toNat := by show K[j].1.1.toNat % 16777216 = _; rw [e2]; exact Nat.mod_eq_of_lt h2
        rw [k1, k2] at h
        exact h
      · refine ⟨by rw [len_tr, hKl], .inr ⟨g, cap, putCells id 0 (flatK encX 4 dn) cur, by rw [hKl], hg, hgh, by rw [hKl]; exact hn, hcap, by rw [hps.1]; exact hsz, ?_⟩⟩
        rw [hKl, hps.2, ← hflK]
        have e := flatK_listX dn.toList
        simp only [Array.toArray_toList] at e
        rw [e, eK, List.map_id]
      · cases hg'
        refine noW_of hgh fun u hu => ?_
        rcases mem_putCells hu with h | h
        · exact hnf u h
        · exact hNW _ _ _ hh u h
      · refine (hokK x hx).only (g := some g) (fun k e => by cases e; exact hNW) fun k hk hkg => hne k hk fun e => hkg (by rw [e])
      · refine ⟨rfl, rfl, rfl, ?_, fun k hk => hne k (by omega) (by omega)⟩
        show w.heap.size ≤ ((w.heap.modify g _) ++ os).size
        simp
end Go.Proofs.YtpaedhlacbpmpaaGreatDoor

/-
  Plain: the mean of a number over independent events; cubes, disjoint cubes, sums over states.
-/
namespace Go.Proofs.YtpaedhlacbpmpaaGreatDoor
open Go.RowKit

/-- The mean of F over the states of the first n events, of which event i fails with probability q i. -/
def EX (q : Nat → Rat) : Nat → (Nat → Rat) → Rat
  | 0, F => F 0
  | n + 1, F => q n * EX q n (fun s => F (s + 2 ^ n)) + (1 - q n) * EX q n F
def ind (b : Bool) : Rat := if b = true then 1 else 0
theorem EX_congr {q : Nat → Rat} : ∀ {n : Nat} {F G : Nat → Rat}, (∀ s, s < 2 ^ n → F s = G s) → EX q n F = EX q n G := by
  intro n
  induction n with
  | zero => intro F G h; exact h 0 (by decide)
  | succ n ih =>
    intro F G h
    rw [EX, EX, ih (F := F) (G := G) (fun s hs => h s (by rw [Nat.pow_succ]; omega)), ih (F := fun s => F (s + 2 ^ n)) (G := fun s => G (s + 2 ^ n)) (fun s hs => h _ (by rw [Nat.pow_succ]; omega))]
theorem EX_add {q : Nat → Rat} : ∀ {n : Nat} {F G : Nat → Rat}, EX q n (fun s => F s + G s) = EX q n F + EX q n G := by
  intro n
  induction n with
  | zero => intro F G; rfl
  | succ n ih =>
    intro F G
    rw [EX, EX, EX, ih (F := F) (G := G), ih (F := fun s => F (s + 2 ^ n)) (G := fun s => G (s + 2 ^ n))]
    grind
theorem EX_mul {q : Nat → Rat} : ∀ {n : Nat} {F : Nat → Rat} {c : Rat}, EX q n (fun s => c * F s) = c * EX q n F := by
  intro n
  induction n with
  | zero => intro F c; rfl
  | succ n ih =>
    intro F c
    rw [EX, EX, ih (F := F), ih (F := fun s => F (s + 2 ^ n))]
    grind
theorem EX_const {q : Nat → Rat} : ∀ {n : Nat} {c : Rat}, EX q n (fun _ => c) = c := by
  intro n
  induction n with
  | zero => intro c; rfl
  | succ n ih => intro c; rw [EX, ih]; grind
theorem EX_mono {q : Nat → Rat} : ∀ {n : Nat} {F G : Nat → Rat}, (∀ i, i < n → 0 ≤ q i ∧ q i ≤ 1) → (∀ s, s < 2 ^ n → F s ≤ G s) → EX q n F ≤ EX q n G := by
  intro n
  induction n with
  | zero => intro F G _ h; exact h 0 (by decide)
  | succ n ih =>
    intro F G hq h
    have h1 := ih (F := F) (G := G) (fun i hi => hq i (by omega)) (fun s hs => h s (by rw [Nat.pow_succ]; omega))
    have h2 := ih (F := fun s => F (s + 2 ^ n)) (G := fun s => G (s + 2 ^ n)) (fun i hi => hq i (by omega)) (fun s hs => h _ (by rw [Nat.pow_succ]; omega))
    obtain ⟨q0, q1⟩ := hq n (by omega)
    rw [EX, EX]
    have h3 := Rat.mul_le_mul_of_nonneg_left h2 q0
    have h4 := Rat.mul_le_mul_of_nonneg_left h1 ((Rat.le_iff_sub_nonneg _ _).1 q1)
    grind
theorem EX_unit {q : Nat → Rat} {n : Nat} {F : Nat → Rat} (hq : ∀ i, i < n → 0 ≤ q i ∧ q i ≤ 1) (h : ∀ s, s < 2 ^ n → 0 ≤ F s ∧ F s ≤ 1) : 0 ≤ EX q n F ∧ EX q n F ≤ 1 := by
  constructor
  · have := EX_mono (F := fun _ => 0) (G := F) hq (fun s hs => (h s hs).1)
    rwa [EX_const] at this
  · have := EX_mono (F := F) (G := fun _ => 1) hq (fun s hs => (h s hs).2)
    rwa [EX_const] at this
/-- The bits of a state below n are as a cube says. -/
def bitIn (c : Nat × Nat) (n s : Nat) : Bool := (List.range n).all fun i => (!c.1.testBit i || s.testBit i) && (!c.2.testBit i || !s.testBit i)
theorem bitIn_succ (c : Nat × Nat) (n s : Nat) : bitIn c (n + 1) s = (bitIn c n s && ((!c.1.testBit n || s.testBit n) && (!c.2.testBit n || !s.testBit n))) := by
  unfold bitIn
  rw [List.range_succ, List.all_append]
  simp
theorem bit_plus {n s : Nat} (h : s < 2 ^ n) : (s + 2 ^ n).testBit n = true ∧ s.testBit n = false ∧ ∀ i, i < n → (s + 2 ^ n).testBit i = s.testBit i := by
  refine ⟨?_, Nat.testBit_lt_two_pow h, fun i hi => ?_⟩
  · rw [Nat.add_comm, Nat.testBit_two_pow_add_eq, Nat.testBit_lt_two_pow h]; rfl
  · rw [Nat.add_comm, Nat.testBit_two_pow_add_gt hi]
theorem bitIn_congr {c : Nat × Nat} {n s t : Nat} (h : ∀ i, i < n → s.testBit i = t.testBit i) : bitIn c n s = bitIn c n t := by
  induction n with
  | zero => rfl
  | succ n ih => rw [bitIn_succ, bitIn_succ, ih (fun i hi => h i (by omega)), h n (by omega)]
/-- The product of the probabilities that a cube names. -/
def wQ (q : Nat → Rat) (c : Nat × Nat) : Nat → Rat
  | 0 => 1
  | n + 1 => (wQ q c n * if c.1.testBit n = true then q n else 1) * if c.2.testBit n = true then 1 - q n else 1
theorem EX_cube {q : Nat → Rat} {c : Nat × Nat} (hc : c.1 &&& c.2 = 0) : ∀ n, EX q n (fun s => ind (bitIn c n s)) = wQ q c n := by
  intro n
  induction n with
  | zero => rfl
  | succ n ih =>
    rw [EX, wQ]
    have hx := and_eq_zero.1 hc n
    have e1 : EX q n (fun s => ind (bitIn c (n + 1) (s + 2 ^ n))) = (if c.2.testBit n = true then 0 else 1) * EX q n (fun s => ind (bitIn c n s)) := by
      rw [← EX_mul]
      refine EX_congr fun s hs => ?_
      obtain ⟨b1, b2, b3⟩ := bit_plus hs
      rw [bitIn_succ, b1, bitIn_congr b3]
      cases bitIn c n s <;> cases c.1.testBit n <;> cases c.2.testBit n <;> simp [ind]
    have e2 : EX q n (fun s => ind (bitIn c (n + 1) s)) = (if c.1.testBit n = true then 0 else 1) * EX q n (fun s => ind (bitIn c n s)) := by
      rw [← EX_mul]
      refine EX_congr fun s hs => ?_
      obtain ⟨b1, b2, b3⟩ := bit_plus hs
      rw [bitIn_succ, b2]
      cases bitIn c n s <;> cases c.1.testBit n <;> cases c.2.testBit n <;> simp [ind]
    rw [e1, e2, ih]
    cases h1 : c.1.testBit n <;> cases h2 : c.2.testBit n
    · simp; grind
    · simp; grind
    · simp; grind
    · rw [hx h1] at h2; cases h2
theorem bitIn_inC {c : Nat × Nat} {n : Nat} (h1 : ∀ i, c.1.testBit i = true → i < n) (h2 : ∀ i, c.2.testBit i = true → i < n) (s : Nat) : bitIn c n s = inC c s := by
  rw [Bool.eq_iff_iff, inC_iff]
  unfold bitIn
  rw [List.all_eq_true]
  constructor
  · intro h
    refine ⟨fun i hi => ?_, fun i hi => ?_⟩
    · have := h i (List.mem_range.2 (h1 i hi))
      rw [hi, Bool.and_eq_true] at this; simpa using this.1
    · have := h i (List.mem_range.2 (h2 i hi))
      rw [hi, Bool.and_eq_true] at this; simpa using this.2
  · rintro ⟨h3, h4⟩ i _
    cases ha : c.1.testBit i <;> cases hb : c.2.testBit i
    · simp
    · simp [h4 i hb]
    · simp [h3 i ha]
    · have := h3 i ha
      rw [h4 i hb] at this
      cases this
/-- The sum of the weights of cubes is the mean number of cubes. -/
def sumW (q : Nat → Rat) (n : Nat) (l : List (Nat × Nat)) : Rat := l.foldl (fun a c => a + wQ q c n) 0
theorem foldl_sum {α : Type} (f : α → Rat) : ∀ (l : List α) (a : Rat), l.foldl (fun a c => a + f c) a = a + l.foldl (fun a c => a + f c) 0 := by
  intro l
  induction l with
  | nil => intro a; exact (Rat.add_zero a).symm
  | cons c l ih =>
    intro a
    rw [List.foldl_cons, List.foldl_cons, ih, ih (0 + f c)]
    grind
theorem sumW_cnt {q : Nat → Rat} {n : Nat} : ∀ {l : List (Nat × Nat)}, (∀ c ∈ l, c.1 &&& c.2 = 0 ∧ (∀ i, c.1.testBit i = true → i < n) ∧ ∀ i, c.2.testBit i = true → i < n) →
    sumW q n l = EX q n (fun s => ((cnt l s : Nat) : Rat)) := by
  intro l
  induction l with
  | nil => intro _; rw [EX_congr (G := fun _ => 0) (fun s _ => by rw [cnt_nil]; rfl), EX_const]; rfl
  | cons c l ih =>
    intro h
    obtain ⟨h1, h2, h3⟩ := h c List.mem_cons_self
    unfold sumW
    rw [List.foldl_cons, foldl_sum]
    have e : EX q n (fun s => ((cnt (c :: l) s : Nat) : Rat)) = EX q n (fun s => ind (bitIn c n s) + ((cnt l s : Nat) : Rat)) := by
      refine EX_congr fun s _ => ?_
      rw [bitIn_inC h2 h3, cnt_cons]
      unfold ind
      split
      · rw [Rat.natCast_add]; rfl
      · rw [Nat.zero_add, Rat.zero_add]
    rw [e, EX_add, EX_cube h1, ← ih (fun d hd => h d (List.mem_cons_of_mem _ hd))]
    unfold sumW
    grind
theorem sumW_unit {q : Nat → Rat} {n : Nat} {l : List (Nat × Nat)} (h : ∀ c ∈ l, c.1 &&& c.2 = 0 ∧ (∀ i, c.1.testBit i = true → i < n) ∧ ∀ i, c.2.testBit i = true → i < n) (hq : ∀ i, i < n → 0 ≤ q i ∧ q i ≤ 1) (h1 : ∀ s, cnt l s ≤ 1) :
    0 ≤ sumW q n l ∧ sumW q n l ≤ 1 := by
  rw [sumW_cnt h]
  refine EX_unit hq fun s _ => ?_
  have := h1 s
  rcases (by omega : cnt l s = 0 ∨ cnt l s = 1) with h | h
  · rw [h]; exact ⟨Rat.le_refl, by show (0 : Rat) ≤ 1; decide⟩
  · rw [h]; exact ⟨by show (0 : Rat) ≤ 1; decide, Rat.le_refl⟩
/-- The probability of a state. -/
def stQ (q : Nat → Rat) (s : Nat) : Nat → Rat
  | 0 => 1
  | n + 1 => stQ q s n * if s.testBit n = true then q n else 1 - q n
def sumTo (F : Nat → Rat) : Nat → Rat
  | 0 => 0
  | n + 1 => sumTo F n + F n
theorem stQ_congr {q : Nat → Rat} {s t : Nat} : ∀ {n : Nat}, (∀ i, i < n → s.testBit i = t.testBit i) → stQ q s n = stQ q t n := by
  intro n
  induction n with
  | zero => intro _; rfl
  | succ n ih => intro h; rw [stQ, stQ, ih (fun i hi => h i (by omega)), h n (by omega)]
theorem sumTo_congr {F G : Nat → Rat} : ∀ {n : Nat}, (∀ s, s < n → F s = G s) → sumTo F n = sumTo G n := by
  intro n
  induction n with
  | zero => intro _; rfl
  | succ n ih => intro h; rw [sumTo, sumTo, ih (fun i hi => h i (by omega)), h n (by omega)]
theorem sumTo_mul {F : Nat → Rat} {c : Rat} : ∀ {n : Nat}, sumTo (fun s => c * F s) n = c * sumTo F n := by
  intro n
  induction n with
  | zero => rw [sumTo, sumTo, Rat.mul_zero]
  | succ n ih => rw [sumTo, sumTo, ih]; grind
theorem sumTo_add {F : Nat → Rat} {a : Nat} : ∀ b, sumTo F (a + b) = sumTo F a + sumTo (fun s => F (s + a)) b := by
  intro b
  induction b with
  | zero => rw [Nat.add_zero, sumTo, Rat.add_zero]
  | succ b ih => rw [← Nat.add_assoc, sumTo, sumTo, ih, Nat.add_comm b a, Rat.add_assoc]
/-- The mean is the sum over the states. -/
theorem EX_sum {q : Nat → Rat} : ∀ {n : Nat} {F : Nat → Rat}, EX q n F = sumTo (fun s => F s * stQ q s n) (2 ^ n) := by
  intro n
  induction n with
  | zero => intro F; simp [EX, sumTo, stQ, Rat.zero_add]
  | succ n ih =>
    intro F
    rw [EX, Nat.pow_succ, Nat.mul_two, sumTo_add, ih, ih, ← sumTo_mul, ← sumTo_mul]
    rw [sumTo_congr (F := fun s => F s * stQ q s (n + 1)) (G := fun s => (1 - q n) * (F s * stQ q s n)) (fun s hs => by
      rw [stQ, (bit_plus hs).2.1, if_neg (by simp)]; grind)]
    rw [sumTo_congr (F := fun s => F (s + 2 ^ n) * stQ q (s + 2 ^ n) (n + 1)) (G := fun s => q n * (F (s + 2 ^ n) * stQ q s n)) (fun s hs => by
      obtain ⟨b1, b2, b3⟩ := bit_plus hs
      rw [stQ, b1, if_pos rfl, stQ_congr b3]; grind)]
    grind
end Go.Proofs.YtpaedhlacbpmpaaGreatDoor

/-
  Plain: inclusion and exclusion, the alternating sums of Bonferroni.
-/
namespace Go.Proofs.YtpaedhlacbpmpaaGreatDoor
open Go.RowKit

/-- The number of choices of k of n things. -/
def chs : Nat → Nat → Nat
  | _, 0 => 1
  | 0, _ + 1 => 0
  | n + 1, k + 1 => chs n k + chs n (k + 1)
/-- The probability of a set. -/
def pQ (q : Nat → Rat) (n c : Nat) : Rat := wQ q (c, 0) n
/-- The sum over the choices of k sets, with what has been chosen already. -/
def incQ (q : Nat → Rat) (n : Nat) : List Nat → Nat → Nat → Rat
  | _, 0, c => pQ q n c
  | [], _ + 1, _ => 0
  | s :: l, k + 1, c => incQ q n l k (c ||| s) + incQ q n l (k + 1) c
/-- The union of the chosen sets; the sums by choices. -/
def uniK (l : List Nat) (ch : Nat) : Nat → Nat
  | 0 => 0
  | n + 1 => if ch.testBit n = true then uniK l ch n ||| l.getD n 0 else uniK l ch n
def sumCh (q : Nat → Rat) (n : Nat) (l : List Nat) (k m : Nat) : Rat := sumTo (fun ch => if pc ch = k then pQ q n (uniK l ch l.length) else 0) m
/-- How many sets of a list a state contains. -/
def cntS (l : List Nat) (s : Nat) : Nat := (l.filter fun t => subN t s).length
theorem pQ_EX {q : Nat → Rat} {n c : Nat} (h : ∀ i, c.testBit i = true → i < n) : pQ q n c = EX q n (fun s => ind (subN c s)) := by
  unfold pQ
  rw [← EX_cube (by simp) n]
  refine EX_congr fun s _ => ?_
  rw [bitIn_inC h (fun i hi => by simp at hi)]
  unfold inC
  simp
theorem sub_or (a b s : Nat) : subN (a ||| b) s = (subN a s && subN b s) := by
  rw [Bool.eq_iff_iff, Bool.and_eq_true, subN_iff, subN_iff, subN_iff]
  constructor
  · intro h
    exact ⟨fun i hi => h i (by rw [Nat.testBit_or, hi]; rfl), fun i hi => h i (by rw [Nat.testBit_or, hi]; simp)⟩
  · rintro ⟨h1, h2⟩ i hi
    rw [Nat.testBit_or, Bool.or_eq_true] at hi
    rcases hi with h | h
    · exact h1 i h
    · exact h2 i h
/-- The alternating sums. -/
def altN (N : Nat) : Nat → Rat
  | 0 => 0
  | k + 1 => if (k + 1) % 2 = 1 then altN N k + ((chs N (k + 1) : Nat) : Rat) else altN N k - ((chs N (k + 1) : Nat) : Rat)
def altQ (q : Nat → Rat) (n : Nat) (l : List Nat) : Nat → Rat
  | 0 => 0
  | k + 1 => if (k + 1) % 2 = 1 then altQ q n l k + incQ q n l (k + 1) 0 else altQ q n l k - incQ q n l (k + 1) 0
end Go.Proofs.YtpaedhlacbpmpaaGreatDoor

/-
  Plain: splitting by an event; values of polynomials.
-/
namespace Go.Proofs.YtpaedhlacbpmpaaGreatDoor

theorem sumP_congr {φ ψ : Nat → Rat} {p : Pol} (h : ∀ t ∈ p, φ t.1 = ψ t.1) : sumP φ p = sumP ψ p := by
  induction p with
  | nil => rfl
  | cons t p ih => show t.2 * φ t.1 + sumP φ p = t.2 * ψ t.1 + sumP ψ p; rw [h t (List.mem_cons_self ..), ih fun u hu => h u (List.mem_cons_of_mem _ hu)]
theorem sumP_scale' (φ : Nat → Rat) (s : Nat × Rat) (q : Pol) : sumP φ (scaleP s q) = s.2 * sumP (fun a => φ (s.1 ||| a)) q := by
  induction q with
  | nil => show (0 : Rat) = _ * 0; grind
  | cons t q ih => show s.2 * t.2 * φ (s.1 ||| t.1) + sumP φ (scaleP s q) = _ * (t.2 * φ (s.1 ||| t.1) + sumP (fun a => φ (s.1 ||| a)) q); rw [ih]; grind
/-- The terms with an event, without it; the terms without it; the terms with it left out. -/
def derT (i : Nat) : Pol → Pol
  | [] => []
  | t :: p => if t.1.testBit i = true then (sdiff t.1 (2 ^ i), t.2) :: derT i p else derT i p
def resT (i : Nat) (failed : Bool) : Pol → Pol
  | [] => []
  | t :: p => if failed = true ∨ t.1.testBit i = false then (sdiff t.1 (2 ^ i), t.2) :: resT i failed p else resT i failed p
theorem derT_app (i : Nat) : ∀ p q, derT i (p ++ q) = derT i p ++ derT i q := by
  intro p
  induction p with
  | nil => intro q; rfl
  | cons t p ih => intro q; simp only [List.cons_append, derT, ih]; split <;> rfl
theorem resT_app (i : Nat) (b : Bool) : ∀ p q, resT i b (p ++ q) = resT i b p ++ resT i b q := by
  intro p
  induction p with
  | nil => intro q; rfl
  | cons t p ih => intro q; simp only [List.cons_append, resT, ih]; split <;> rfl
theorem derT_len (i : Nat) (p : Pol) : (derT i p).length ≤ p.length := by
  induction p with
  | nil => exact Nat.le_refl _
  | cons t p ih => unfold derT; split <;> simp <;> omega
theorem resT_len (i : Nat) (b : Bool) (p : Pol) : (resT i b p).length ≤ p.length := by
  induction p with
  | nil => exact Nat.le_refl _
  | cons t p ih => unfold resT; split <;> simp <;> omega
theorem sdiff_no {s i : Nat} (h : s.testBit i = false) : sdiff s (2 ^ i) = s := by
  refine Nat.eq_of_testBit_eq fun j => ?_
  rw [sdiff_bit, Nat.testBit_two_pow]
  by_cases e : i = j
  · subst e; rw [h]; simp
  · simp [e]
theorem sdiff_or {s i : Nat} (h : s.testBit i = true) : 2 ^ i ||| sdiff s (2 ^ i) = s := by
  refine Nat.eq_of_testBit_eq fun j => ?_
  rw [Nat.testBit_or, sdiff_bit, Nat.testBit_two_pow]
  by_cases e : i = j
  · subst e; rw [h]; simp
  · simp [e]
theorem split_sum (φ : Nat → Rat) (i : Nat) (p : Pol) : sumP φ p = sumP φ (resT i false p) + sumP (fun a => φ (2 ^ i ||| a)) (derT i p) := by
  induction p with
  | nil => show (0 : Rat) = 0 + 0; grind
  | cons t p ih =>
    unfold resT derT
    cases hb : t.1.testBit i with
    | true =>
      rw [if_neg (by simp), if_pos rfl]
      show t.2 * φ t.1 + sumP φ p = sumP φ (resT i false p) + (t.2 * φ (2 ^ i ||| sdiff t.1 (2 ^ i)) + sumP (fun a => φ (2 ^ i ||| a)) (derT i p))
      rw [sdiff_or hb, ih]; grind
    | false =>
      rw [if_pos (by simp), if_neg (by simp), sdiff_no hb]
      show t.2 * φ t.1 + sumP φ p = t.2 * φ t.1 + sumP φ (resT i false p) + sumP (fun a => φ (2 ^ i ||| a)) (derT i p)
      rw [ih]; grind
theorem diff_sum (φ : Nat → Rat) (i : Nat) (p : Pol) : sumP φ (resT i true p) = sumP φ (resT i false p) + sumP φ (derT i p) := by
  induction p with
  | nil => show (0 : Rat) = 0 + 0; grind
  | cons t p ih =>
    unfold resT derT
    rw [if_pos (.inl rfl)]
    cases hb : t.1.testBit i with
    | true =>
      rw [if_neg (by simp), if_pos rfl]
      show t.2 * φ _ + sumP φ (resT i true p) = sumP φ (resT i false p) + (t.2 * φ _ + sumP φ (derT i p))
      rw [ih]; grind
    | false =>
      rw [if_pos (by simp), if_neg (by simp)]
      show t.2 * φ _ + sumP φ (resT i true p) = t.2 * φ _ + sumP φ (resT i false p) + sumP φ (derT i p)
      rw [ih]; grind
theorem split_pol {p : Pol} (h : CanP p) (i : Nat) : normP (normP (resT i false p) ++ normP (mulT [(2 ^ i, 1)] (normP (derT i p)))) = p := by
  refine (normP_eq h fun s => ?_).symm
  show sumP _ p = sumP _ _
  rw [sumP_app, normP_sum, normP_sum]
  show _ = _ + sumP _ (scaleP (2 ^ i, 1) (normP (derT i p)) ++ [])
  rw [List.append_nil, sumP_scale', normP_sum, split_sum _ i p]
  grind
theorem diff_pol (p : Pol) (i : Nat) : normP (normP (resT i true p) ++ negP (normP (resT i false p))) = normP (derT i p) := by
  refine (normP_eq (normP_can _) fun s => ?_).symm
  show sumP _ _ = sumP _ _
  rw [normP_sum, sumP_app, normP_sum, sumP_neg, normP_sum, diff_sum]
  grind
/-- The value for a set of failed events. -/
def valP (p : Pol) (s : Nat) : Rat := sumP (fun t => ind (subN t s)) p
theorem ind_mul (a b s : Nat) : ind (subN (a ||| b) s) = ind (subN a s) * ind (subN b s) := by
  rw [sub_or]
  cases subN a s <;> cases subN b s <;> simp [ind] <;> grind
theorem val_mul (p q : Pol) (s : Nat) : valP (normP (mulT p q)) s = valP p s * valP q s := by
  unfold valP
  rw [normP_sum, sumP_mul fun a b => ind_mul a b s]
theorem val_add (p q : Pol) (s : Nat) : valP (normP (p ++ q)) s = valP p s + valP q s := by unfold valP; rw [normP_sum, sumP_app]
theorem val_sub (p q : Pol) (s : Nat) : valP (normP (p ++ negP q)) s = valP p s - valP q s := by unfold valP; rw [normP_sum, sumP_app, sumP_neg]; grind
end Go.Proofs.YtpaedhlacbpmpaaGreatDoor

/-
  Plain: coefficients of a polynomial with whole values are not large; the mean of its values.
-/
namespace Go.Proofs.YtpaedhlacbpmpaaGreatDoor

/-- A whole number of at most this size. -/
def IntB (B : Nat) (x : Rat) : Prop := ∃ z : Int, x = (z : Rat) ∧ z.natAbs ≤ B
theorem IntB.mono {A B : Nat} {x : Rat} (h : IntB A x) (hAB : A ≤ B) : IntB B x := by
  obtain ⟨z, h1, h2⟩ := h; exact ⟨z, h1, Nat.le_trans h2 hAB⟩
theorem IntB.add {A B : Nat} {x y : Rat} (h : IntB A x) (k : IntB B y) : IntB (A + B) (x + y) := by
  obtain ⟨z, h1, h2⟩ := h
  obtain ⟨u, k1, k2⟩ := k
  exact ⟨z + u, by rw [h1, k1, Rat.intCast_add], by omega⟩
theorem IntB.neg {A : Nat} {x : Rat} (h : IntB A x) : IntB A (-x) := by
  obtain ⟨z, h1, h2⟩ := h
  exact ⟨-z, by rw [h1, Rat.intCast_neg], by omega⟩
theorem IntB.sub {A B : Nat} {x y : Rat} (h : IntB A x) (k : IntB B y) : IntB (A + B) (x - y) := by
  rw [Rat.sub_eq_add_neg]; exact h.add k.neg
theorem IntB.zero : IntB 0 0 := ⟨0, rfl, Nat.le_refl _⟩
theorem IntB.ind {A : Nat} {x : Rat} (h : IntB A x) (b : Bool) : IntB A (x * ind b) := by
  cases b
  · rw [show x * Go.Proofs.YtpaedhlacbpmpaaGreatDoor.ind false = 0 by simp [Go.Proofs.YtpaedhlacbpmpaaGreatDoor.ind]]; exact IntB.zero.mono (Nat.zero_le _)
  · rw [show x * Go.Proofs.YtpaedhlacbpmpaaGreatDoor.ind true = x by simp [Go.Proofs.YtpaedhlacbpmpaaGreatDoor.ind]]; exact h
theorem IntB.mul {A B : Nat} {x y : Rat} (h : IntB A x) (k : IntB B y) : IntB (A * B) (x * y) := by
  obtain ⟨z, h1, h2⟩ := h
  obtain ⟨u, k1, k2⟩ := k
  exact ⟨z * u, by rw [h1, k1, Rat.intCast_mul], by rw [Int.natAbs_mul]; exact Nat.mul_le_mul h2 k2⟩
/-- The other terms below a set. -/
theorem sum_intB {φ : Nat → Rat} {M : Nat} : ∀ {p : Pol}, (∀ t ∈ p, IntB M (t.2 * φ t.1)) → IntB (p.length * M) (sumP φ p) := by
  intro p
  induction p with
  | nil => intro _; exact IntB.zero.mono (Nat.zero_le _)
  | cons t p ih =>
    intro h
    have h1 := (h t (List.mem_cons_self ..)).add (ih fun u hu => h u (List.mem_cons_of_mem _ hu))
    refine h1.mono ?_
    rw [List.length_cons, Nat.succ_mul]; omega
theorem val_split {p : Pol} (h : CanP p) {t : Nat × Rat} (ht : t ∈ p) : valP p t.1 = t.2 + sumP (fun u => if u = t.1 then 0 else ind (subN u t.1)) p := by
  have h1 : valP p t.1 = coef p t.1 + sumP (fun u => if u = t.1 then 0 else ind (subN u t.1)) p := by
    unfold valP coef
    clear ht h
    induction p with
    | nil => show (0 : Rat) = 0 + 0; grind
    | cons u p ih =>
      show u.2 * ind (subN u.1 t.1) + _ = (u.2 * (if u.1 = t.1 then 1 else 0) + _) + (u.2 * (if u.1 = t.1 then 0 else ind (subN u.1 t.1)) + _)
      rw [ih]
      split
      · rename_i e; rw [e, subN_refl]; simp [ind]; grind
      · grind
  rw [h1, coef_mem h ht]
theorem coef_bound {p : Pol} {B : Nat} (h : CanP p) (hl : p.length ≤ 4096) (hv : ∀ t ∈ p, IntB B (valP p t.1)) : ∀ k, ∀ t ∈ p, pc t.1 ≤ k → IntB (B * 4097 ^ k) t.2 := by
  intro k
  induction k with
  | zero =>
    intro t ht hk
    have e := val_split h ht
    have e2 : sumP (fun u => if u = t.1 then 0 else ind (subN u t.1)) p = sumP (fun _ => 0) p := sumP_congr fun u hu => by
      split
      · rfl
      · rename_i hne
        cases hs : subN u.1 t.1 with
        | false => rfl
        | true => exact absurd ((subN_le hs).2 (by have := (subN_le hs).1; omega)) hne
    have e3 : sumP (fun _ => 0) p = 0 := by
      have : ∀ q : Pol, sumP (fun _ => 0) q = 0 := by
        intro q
        induction q with
        | nil => rfl
        | cons u q ih => show u.2 * 0 + _ = 0; rw [ih]; grind
      exact this p
    rw [e2, e3, Rat.add_zero] at e
    rw [← e]
    simpa using hv t ht
  | succ k ih =>
    intro t ht hk
    have e := val_split h ht
    have h1 : IntB (p.length * (B * 4097 ^ k)) (sumP (fun u => if u = t.1 then 0 else ind (subN u t.1)) p) := sum_intB fun u hu => by
      show IntB _ (u.2 * (if u.1 = t.1 then 0 else ind (subN u.1 t.1)))
      split
      · rw [Rat.mul_zero]; exact IntB.zero.mono (Nat.zero_le _)
      · rename_i hne
        cases hs : subN u.1 t.1 with
        | false => rw [show u.2 * ind false = 0 by simp [ind]]; exact IntB.zero.mono (Nat.zero_le _)
        | true =>
          refine (ih u hu ?_).ind true
          have h2 := subN_le hs
          rcases Nat.lt_or_ge (pc u.1) (pc t.1) with h3 | h3
          · omega
          · exact absurd (h2.2 (by omega)) hne
    have h2 : t.2 = valP p t.1 - sumP (fun u => if u = t.1 then 0 else ind (subN u t.1)) p := by rw [e]; grind
    rw [h2]
    refine ((hv t ht).sub h1).mono ?_
    have h3 : B ≤ B * 4097 ^ k := Nat.le_mul_of_pos_right _ (Nat.pow_pos (by decide))
    have h4 : p.length * (B * 4097 ^ k) ≤ 4096 * (B * 4097 ^ k) := Nat.mul_le_mul_right _ hl
    have h5 : B * 4097 ^ (k + 1) = B * 4097 ^ k * 4097 := by rw [Nat.pow_succ, ← Nat.mul_assoc]
    rw [h5]
    generalize B * 4097 ^ k = M at *
    generalize p.length * M = N at *
    omega
/-- The value of a polynomial for values of the events. -/
def evalP (q : Nat → Rat) (n : Nat) (p : Pol) : Rat := sumP (pQ q n) p
theorem evalP_EX {q : Nat → Rat} {n : Nat} : ∀ {p : Pol}, (∀ t ∈ p, ∀ i, t.1.testBit i = true → i < n) → evalP q n p = EX q n (valP p) := by
  intro p
  induction p with
  | nil => intro _; exact (EX_const (q := q) (n := n) (c := 0)).symm
  | cons t p ih =>
    intro h
    show t.2 * pQ q n t.1 + evalP q n p = EX q n (fun s => t.2 * ind (subN t.1 s) + valP p s)
    rw [EX_add, EX_mul, ← pQ_EX (h t (List.mem_cons_self ..)), ih fun u hu => h u (List.mem_cons_of_mem _ hu)]
end Go.Proofs.YtpaedhlacbpmpaaGreatDoor

/-
  Plain: the polynomials of nodes have the values of the nodes.
-/
namespace Go.Proofs.YtpaedhlacbpmpaaGreatDoor

/-- An accepted polynomial whose values are whole numbers up to B. -/
structure PolB (B : Nat) (p : Pol) : Prop where
  can : CanP p
  len : p.length ≤ 4096
  bit : ∀ t ∈ p, t.1 < 16777216
  val : ∀ s, IntB B (valP p s)
def fitP (p : Pol) : Option Pol := if p.length ≤ 4096 then some p else none
def addO (p q : Pol) : Option Pol := fitP (normP (p ++ q))
def subO (p q : Pol) : Option Pol := fitP (normP (p ++ negP q))
def mulO (p q : Pol) : Option Pol := fitP (normP (mulT p q))
theorem fit_some {p r : Pol} (h : fitP p = some r) : r = p ∧ p.length ≤ 4096 := by
  unfold fitP at h
  split at h
  · rename_i h1; cases h; exact ⟨rfl, h1⟩
  · cases h
def oneP : Pol := [(0, 1)]
def constP (k : Rat) : Pol := if k = 0 then [] else [(0, k)]
def eventP (i : Nat) : Pol := [(2 ^ i, 1)]
def notO (p : Pol) : Option Pol := subO oneP p
theorem or_lt24' {a b : Nat} (ha : a < 16777216) (hb : b < 16777216) : a ||| b < 16777216 := Nat.or_lt_two_pow (n := 24) ha hb
theorem PolB.add {A B : Nat} {p q r : Pol} (hp : PolB A p) (hq : PolB B q) (h : addO p q = some r) : PolB (A + B) r ∧ ∀ s, valP r s = valP p s + valP q s := by
  obtain ⟨rfl, hl⟩ := fit_some h
  have hv : ∀ s, valP (normP (p ++ q)) s = valP p s + valP q s := val_add p q
  refine ⟨⟨normP_can _, hl, fun t ht => ?_, fun s => by rw [hv]; exact (hp.val s).add (hq.val s)⟩, hv⟩
  obtain ⟨u, hu, e⟩ := mem_normP ht
  rw [e]
  rcases List.mem_append.1 hu with h | h
  · exact hp.bit u h
  · exact hq.bit u h
theorem mem_negP {p : Pol} {u : Nat × Rat} (h : u ∈ negP p) : ∃ t ∈ p, u = (t.1, - t.2) := by
  unfold negP at h
  obtain ⟨t, h1, h2⟩ := List.mem_map.1 h
  exact ⟨t, h1, h2.symm⟩
theorem PolB.sub {A B : Nat} {p q r : Pol} (hp : PolB A p) (hq : PolB B q) (h : subO p q = some r) : PolB (A + B) r ∧ ∀ s, valP r s = valP p s - valP q s := by
  obtain ⟨rfl, hl⟩ := fit_some h
  have hv : ∀ s, valP (normP (p ++ negP q)) s = valP p s - valP q s := val_sub p q
  refine ⟨⟨normP_can _, hl, fun t ht => ?_, fun s => by rw [hv]; exact (hp.val s).sub (hq.val s)⟩, hv⟩
  obtain ⟨u, hu, e⟩ := mem_normP ht
  rw [e]
  rcases List.mem_append.1 hu with h | h
  · exact hp.bit u h
  · obtain ⟨v, h1, h2⟩ := mem_negP h
    rw [h2]
    exact hq.bit v h1
theorem mem_mulT {p q : Pol} {u : Nat × Rat} (h : u ∈ mulT p q) : ∃ s ∈ p, ∃ t ∈ q, u = (s.1 ||| t.1, s.2 * t.2) := by
  unfold mulT at h
  obtain ⟨s, h1, h2⟩ := List.mem_flatMap.1 h
  unfold scaleP at h2
  obtain ⟨t, h3, h4⟩ := List.mem_map.1 h2
  exact ⟨s, h1, t, h3, h4.symm⟩
theorem PolB.mul {A B : Nat} {p q r : Pol} (hp : PolB A p) (hq : PolB B q) (h : mulO p q = some r) : PolB (A * B) r ∧ ∀ s, valP r s = valP p s * valP q s := by
  obtain ⟨rfl, hl⟩ := fit_some h
  have hv : ∀ s, valP (normP (mulT p q)) s = valP p s * valP q s := val_mul p q
  refine ⟨⟨normP_can _, hl, fun t ht => ?_, fun s => by rw [hv]; exact (hp.val s).mul (hq.val s)⟩, hv⟩
  obtain ⟨u, hu, e⟩ := mem_normP ht
  rw [e]
  obtain ⟨a, h1, b, h2, h3⟩ := mem_mulT hu
  rw [h3]
  exact or_lt24' (hp.bit a h1) (hq.bit b h2)
theorem subN_zero (s : Nat) : subN 0 s = true := subN_iff.2 fun i h => by simp at h
theorem val_const (k : Rat) (s : Nat) : valP (constP k) s = k := by
  unfold constP
  split
  · rename_i h; rw [h]; rfl
  · show k * ind (subN 0 s) + 0 = k; rw [subN_zero]; simp [ind]; grind
theorem PolB.const {B : Nat} {k : Rat} (h : IntB B k) : PolB B (constP k) := by
  refine ⟨?_, ?_, fun t ht => ?_, fun s => by rw [val_const]; exact h⟩
  · unfold constP
    split
    · exact CanP.nil
    · rename_i h; exact ⟨List.pairwise_singleton .., fun u hu => by rw [List.mem_singleton] at hu; rw [hu]; exact h⟩
  · unfold constP; split <;> simp
  · unfold constP at ht
    split at ht
    · cases ht
    · rw [List.mem_singleton] at ht; rw [ht]; show (0 : Nat) < 16777216; decide
theorem one_const : oneP = constP 1 := by unfold constP; rw [if_neg (by decide)]; rfl
/-- A polynomial that is 1 where a state says so, else 0. -/
structure PolV (p : Pol) (b : Nat → Bool) : Prop where
  can : CanP p
  len : p.length ≤ 4096
  bit : ∀ t ∈ p, t.1 < 16777216
  val : ∀ s, valP p s = ind (b s)
theorem ind_int (b : Bool) : IntB 1 (ind b) := by
  cases b
  · exact ⟨0, rfl, by decide⟩
  · exact ⟨1, rfl, by decide⟩
theorem PolV.b {p : Pol} {b : Nat → Bool} (h : PolV p b) : PolB 1 p := ⟨h.can, h.len, h.bit, fun s => by rw [h.val]; exact ind_int _⟩
theorem PolB.v {B : Nat} {p : Pol} {b : Nat → Bool} (h : PolB B p) (hv : ∀ s, valP p s = ind (b s)) : PolV p b := ⟨h.can, h.len, h.bit, hv⟩
theorem PolV.congr {p : Pol} {b c : Nat → Bool} (h : PolV p b) (hc : ∀ s, b s = c s) : PolV p c := ⟨h.can, h.len, h.bit, fun s => by rw [h.val, hc]⟩
theorem PolV.one : PolV oneP (fun _ => true) := by
  rw [one_const]
  exact (PolB.const (ind_int true)).v fun s => val_const 1 s
theorem PolV.zero : PolV [] (fun _ => false) := ⟨CanP.nil, by simp, (fun t h => by cases h), fun s => rfl⟩
theorem PolV.not {p r : Pol} {b : Nat → Bool} (h : PolV p b) (hr : notO p = some r) : PolV r (fun s => !b s) := by
  obtain ⟨h1, h2⟩ := PolV.one.b.sub h.b hr
  refine h1.v fun s => ?_
  rw [h2, PolV.one.val, h.val]
  cases b s <;> simp [ind] <;> grind
theorem PolV.mul {p q r : Pol} {b c : Nat → Bool} (h : PolV p b) (k : PolV q c) (hr : mulO p q = some r) : PolV r (fun s => b s && c s) := by
  obtain ⟨h1, h2⟩ := h.b.mul k.b hr
  refine h1.v fun s => ?_
  rw [h2, h.val, k.val]
  cases b s <;> cases c s <;> simp [ind] <;> grind
/-- The exclusive or. -/
def xorO (p q : Pol) : Option Pol := (addO p q).bind fun a => (mulO p q).bind fun m => (subO a m).bind fun d => subO d m
theorem PolV.xor {p q r : Pol} {b c : Nat → Bool} (h : PolV p b) (k : PolV q c) (hr : xorO p q = some r) : PolV r (fun s => b s != c s) := by
  unfold xorO at hr
  obtain ⟨a, ha, hr⟩ := Option.bind_eq_some_iff.1 hr
  obtain ⟨m, hm, hr⟩ := Option.bind_eq_some_iff.1 hr
  obtain ⟨d, hd, hr⟩ := Option.bind_eq_some_iff.1 hr
  obtain ⟨a1, a2⟩ := h.b.add k.b ha
  obtain ⟨m1, m2⟩ := h.b.mul k.b hm
  obtain ⟨d1, d2⟩ := a1.sub m1 hd
  obtain ⟨r1, r2⟩ := d1.sub m1 hr
  refine r1.v fun s => ?_
  rw [r2, d2, a2, m2, h.val, k.val]
  cases b s <;> cases c s <;> simp [ind] <;> grind
/-- A choice: with an argument the one, without it the other one. -/
def selO (a p q : Pol) : Option Pol := (mulO a p).bind fun x => (notO a).bind fun n => (mulO n q).bind fun y => addO x y
theorem PolV.sel {a p q r : Pol} {e b c : Nat → Bool} (ha : PolV a e) (h : PolV p b) (k : PolV q c) (hr : selO a p q = some r) : PolV r (fun s => if e s = true then b s else c s) := by
  unfold selO at hr
  obtain ⟨x, hx, hr⟩ := Option.bind_eq_some_iff.1 hr
  obtain ⟨n, hn, hr⟩ := Option.bind_eq_some_iff.1 hr
  obtain ⟨y, hy, hr⟩ := Option.bind_eq_some_iff.1 hr
  have x1 := ha.mul h hx
  have y1 := (ha.not hn).mul k hy
  obtain ⟨r1, r2⟩ := x1.b.add y1.b hr
  refine r1.v fun s => ?_
  rw [r2, x1.val, y1.val]
  cases e s <;> cases b s <;> cases c s <;> simp [ind] <;> grind
/-- Folds that may fail. -/
def foldO (op : Pol → Pol → Option Pol) : Pol → List Pol → Option Pol
  | p, [] => some p
  | p, a :: l => (op p a).bind fun r => foldO op r l
def mulN (p a : Pol) : Option Pol := (notO a).bind fun n => mulO p n
def andB (b : Nat → Bool) : List (Nat → Bool) → Nat → Bool
  | [], s => b s
  | c :: l, s => andB (fun s => b s && c s) l s
theorem fold_all {op : Pol → Pol → Option Pol} {f : Bool → Bool → Bool} (hop : ∀ {p q r : Pol} {b c : Nat → Bool}, PolV p b → PolV q c → op p q = some r → PolV r (fun s => f (b s) (c s))) :
    ∀ {args : List Pol} {vs : Nat → List Bool} {p r : Pol} {b : Nat → Bool}, (∀ s, (vs s).length = args.length) → (∀ i (h : i < args.length), PolV args[i] (fun s => (vs s).getD i false)) → PolV p b → foldO op p args = some r → PolV r (fun s => (vs s).foldl f (b s)) := by
  intro args
  induction args with
  | nil =>
    intro vs p r b hl _ hp h
    cases h
    refine hp.congr fun s => ?_
    rw [List.eq_nil_of_length_eq_zero (hl s)]
    rfl
  | cons a args ih =>
    intro vs p r b hl hv hp h
    obtain ⟨q, hq, h⟩ := Option.bind_eq_some_iff.1 h
    have h1 := hop hp (hv 0 (by simp)) hq
    have h2 := ih (vs := fun s => (vs s).tail) (fun s => by rw [List.length_tail, hl s]; rfl) (fun i hi => by
      have := hv (i + 1) (by simpa using hi)
      refine PolV.congr this fun s => ?_
      cases hvs : vs s with
      | nil => have := hl s; rw [hvs] at this; cases this
      | cons x l => rfl) h1 h
    refine h2.congr fun s => ?_
    cases hvs : vs s with
    | nil => have := hl s; rw [hvs] at this; cases this
    | cons x l => rfl
/-- The votes: the polynomials of 'at least j', j = 0 .. k, when one more argument comes. -/
def voteRow (a : Pol) : Pol → List Pol → Option (List Pol)
  | _, [] => some []
  | p, q :: v => (selO a p q).bind fun x => (voteRow a q v).map fun t => x :: t
def voteStep (a : Pol) (v : List Pol) : Option (List Pol) := match v with
  | [] => some []
  | p :: t => (voteRow a p t).map fun r => oneP :: r
def votesP (v : List Pol) : List Pol → Option (List Pol)
  | [] => some v
  | a :: l => (votesP v l).bind fun w => voteStep a w
def voteP (k : Nat) (args : List Pol) : Option Pol := (votesP (oneP :: List.replicate k []) args).map fun v => v.getD k []
theorem row_v {a : Pol} {e : Nat → Bool} (ha : PolV a e) (n : Nat → Nat) : ∀ {v r : List Pol} {p : Pol} {j : Nat}, PolV p (fun s => decide (j ≤ n s)) → (∀ i (h : i < v.length), PolV v[i] (fun s => decide (j + 1 + i ≤ n s))) → voteRow a p v = some r →
    r.length = v.length ∧ ∀ i (h : i < r.length), PolV r[i] (fun s => decide (j + 1 + i ≤ n s + if e s = true then 1 else 0)) := by
  intro v
  induction v with
  | nil => intro r p j _ _ h; cases h; exact ⟨rfl, fun i h => by cases h⟩
  | cons q v ih =>
    intro r p j hp hv h
    obtain ⟨x, hx, h⟩ := Option.bind_eq_some_iff.1 h
    obtain ⟨t, ht, h⟩ := Option.map_eq_some_iff.1 h
    subst h
    have hq := hv 0 (by simp)
    obtain ⟨h1, h2⟩ := ih (j := j + 1) hq (fun i hi => by
      have := hv (i + 1) (by simpa using hi)
      refine PolV.congr this fun s => ?_
      rw [show j + 1 + (i + 1) = j + 1 + 1 + i by omega]) ht
    refine ⟨by rw [List.length_cons, List.length_cons, h1], fun i hi => ?_⟩
    cases i with
    | zero =>
      refine (ha.sel hp hq hx).congr fun s => ?_
      show _ = decide (j + 1 + 0 ≤ n s + if e s = true then 1 else 0)
      cases e s
      · simp
      · simp
    | succ i =>
      refine (h2 i (by simpa using hi)).congr fun s => ?_
      rw [show j + 1 + (i + 1) = j + 1 + 1 + i by omega]
def cntB : List Bool → Nat
  | [] => 0
  | b :: l => (if b = true then 1 else 0) + cntB l
theorem votes_v {k : Nat} : ∀ {args : List Pol} {vs : Nat → List Bool} {r : List Pol}, (∀ s, (vs s).length = args.length) → (∀ i (h : i < args.length), PolV args[i] (fun s => (vs s).getD i false)) → votesP (oneP :: List.replicate k []) args = some r →
    r.length = k + 1 ∧ ∀ i (h : i < r.length), PolV r[i] (fun s => decide (i ≤ cntB (vs s))) := by
  intro args
  induction args with
  | nil =>
    intro vs r hl _ h
    cases h
    refine ⟨by simp, fun i hi => ?_⟩
    cases i with
    | zero => exact PolV.one.congr fun s => by simp
    | succ i =>
      have e : (oneP :: List.replicate k ([] : Pol))[i + 1] = [] := by simp
      rw [e]
      refine PolV.zero.congr fun s => ?_
      rw [List.eq_nil_of_length_eq_zero (hl s)]
      simp [cntB]
  | cons a args ih =>
    intro vs r hl hv h
    obtain ⟨w, hw, h⟩ := Option.bind_eq_some_iff.1 h
    obtain ⟨h1, h2⟩ := ih (vs := fun s => (vs s).tail) (fun s => by rw [List.length_tail, hl s]; rfl) (fun i hi => by
      have := hv (i + 1) (by simpa using hi)
      refine PolV.congr this fun s => ?_
      cases hvs : vs s with
      | nil => have := hl s; rw [hvs] at this; cases this
      | cons x l => rfl) hw
    cases w with
    | nil => cases h1
    | cons p t =>
      unfold voteStep at h
      obtain ⟨u, hu, h⟩ := Option.map_eq_some_iff.1 h
      subst h
      have ht : t.length = k := by simpa using h1
      obtain ⟨h3, h4⟩ := row_v (hv 0 (by simp)) (fun s => cntB (vs s).tail) (j := 0) (h2 0 (by simp)) (fun i hi => by
        have := h2 (i + 1) (by simpa using hi)
        refine PolV.congr this fun s => ?_
        rw [show 0 + 1 + i = i + 1 by omega]) hu
      refine ⟨by rw [List.length_cons, h3, ht], fun i hi => ?_⟩
      have hc : ∀ s, cntB (vs s) = cntB (vs s).tail + if (vs s).getD 0 false = true then 1 else 0 := fun s => by
        cases hvs : vs s with
        | nil => have := hl s; rw [hvs] at this; cases this
        | cons x l => simp [cntB]; omega
      cases i with
      | zero => exact PolV.one.congr fun s => by simp
      | succ i =>
        refine (h4 i (by simpa using hi)).congr fun s => ?_
        rw [hc, show 0 + 1 + i = i + 1 by omega]
theorem vote_v {k : Nat} {args : List Pol} {vs : Nat → List Bool} {r : Pol} (hl : ∀ s, (vs s).length = args.length) (hv : ∀ i (h : i < args.length), PolV args[i] (fun s => (vs s).getD i false)) (h : voteP k args = some r) : PolV r (fun s => decide (k ≤ cntB (vs s))) := by
  obtain ⟨v, hv2, h⟩ := Option.map_eq_some_iff.1 h
  obtain ⟨h1, h2⟩ := votes_v hl hv hv2
  have e : v.getD k [] = v[k]'(by omega) := by rw [List.getD_eq_getElem?_getD, List.getElem?_eq_getElem (by omega)]; rfl
  rw [← h, e]
  exact h2 k (by omega)
end Go.Proofs.YtpaedhlacbpmpaaGreatDoor

/-
  Plain: the bounds of Bonferroni.
-/
namespace Go.Proofs.YtpaedhlacbpmpaaGreatDoor

/-- The greater, the lesser number. -/
def maxQ (a b : Rat) : Rat := if b ≤ a then a else b
def minQ (a b : Rat) : Rat := if a ≤ b then a else b
/-- The bounds of Bonferroni. -/
def bndLo (q : Nat → Rat) (n : Nat) (l : List Nat) : Nat → Rat
  | 0 => 0
  | k + 1 => if (k + 1) % 2 = 0 then maxQ (bndLo q n l k) (altQ q n l (k + 1)) else bndLo q n l k
def bndHi (q : Nat → Rat) (n : Nat) (l : List Nat) : Nat → Rat
  | 0 => 1
  | k + 1 => if (k + 1) % 2 = 0 then bndHi q n l k else minQ (bndHi q n l k) (altQ q n l (k + 1))
end Go.Proofs.YtpaedhlacbpmpaaGreatDoor

/-
  Plain: lists of cubes that are given, weights by fractions.
-/
namespace Go.Proofs.YtpaedhlacbpmpaaGreatDoor
open Go.RowKit

/-- The number of the error of a cube, of a list of cubes. -/
def chkCb (c : Int × Int) : Nat := if (0 ≤ c.1 ∧ c.1 < 16777216) ∧ 0 ≤ c.2 ∧ c.2 < 16777216 then (if c.1.toNat &&& c.2.toNat ≠ 0 then 6 else 0) else 3
def chkCs : List (Int × Int) → Nat
  | [] => 0
  | c :: l => if chkCb c ≠ 0 then chkCb c else chkCs l
def natC (c : Int × Int) : Nat × Nat := (c.1.toNat, c.2.toNat)
/-- The cube i meets one before it. -/
def metC (L : List (Int × Int)) (i m : Nat) : Bool := (List.range m).any fun j => meetC (natC (L.getD i default)) (natC (L.getD j default))
def metT (L : List (Int × Int)) (m : Nat) : Bool := (List.range m).any fun i => metC L i i
def chkD (L : List (Int × Int)) : Nat := if 1024 < L.length then 4 else if chkCs L ≠ 0 then chkCs L else if metT L L.length = true then 21 else 0
/-- The probabilities of the events. -/
def qOf (ps : List Rw) (i : Nat) : Rat := ratOf (ps.getD i default)
def wQs (ps : List Rw) (c : Nat × Nat) (n : Nat) : Rat := wQ (qOf ps) c n
def sumWs (ps : List Rw) (l : List (Nat × Nat)) (k : Nat) : Rat := sumW (qOf ps) ps.length (l.take k)
end Go.Proofs.YtpaedhlacbpmpaaGreatDoor

/-
  Plain: the sums of inclusion and exclusion over fractions; how long they become; a slice of fractions in one block.
-/
namespace Go.Proofs.YtpaedhlacbpmpaaGreatDoor
open Go.RowKit

/-- The number of the error. -/
def incE (xs : List Int) (ps : List Rw) (k : Int) : Nat :=
  if chkI xs ≠ 0 then chkI xs else if 12 < xs.length then 4 else if (natsI xs).any (fun s => decide ((ps.length : Int) ≤ gtK s)) = true then 11 else if badR ps = true then 3 else if k < 0 ∨ 12 < k then 3 else 0
theorem pQ_prod (s : Nat) (ps : List Rw) : ∀ n, pQ (qOf ps) n s = prodQ s ps n := by
  intro n
  induction n with
  | zero => rfl
  | succ n ih =>
    rw [prodQ_succ, ← ih]
    show (pQ (qOf ps) n s * (if s.testBit n = true then qOf ps n else 1)) * (if (0 : Nat).testBit n = true then 1 - qOf ps n else 1) = _
    have e : (if (0 : Nat).testBit n = true then 1 - qOf ps n else (1 : Rat)) = 1 := if_neg (by simp)
    rw [e, Rat.mul_one]
    split
    · rfl
    · exact Rat.mul_one _
/-- The sum of the choices below m that choose k sets. -/
def sumR (ps : List Rw) (l : List Nat) (k m : Nat) : Rat := sumCh (qOf ps) ps.length l k m
/-- The sum over the choices of k sets. -/
def incR (ps : List Rw) (l : List Nat) (k : Nat) : Rat := incQ (qOf ps) ps.length l k 0
/-- With what has been chosen already. -/
def incC (ps : List Rw) (l : List Nat) (k c : Nat) : Rat := incQ (qOf ps) ps.length l k c
/-- The alternating sum. -/
def altR (ps : List Rw) (l : List Nat) (k : Nat) : Rat := altQ (qOf ps) ps.length l k
/-- The bounds. -/
def loR (ps : List Rw) (l : List Nat) (k : Nat) : Rat := bndLo (qOf ps) ps.length l k
def hiR (ps : List Rw) (l : List Nat) (k : Nat) : Rat := bndHi (qOf ps) ps.length l k
/-- Fractions in one block of these cells alone. -/
def ArrAt (w : World) (g : Nat) (e : TypeId) (rs : List Rw) : Prop :=
  ∃ L : List RwV, L.map Prod.fst = rs ∧ RowAt w g e (L.flatMap rwC) ∧ FixAt w g (L.flatMap rwC) ∧ ∀ x ∈ L, RwOk w x
end Go.Proofs.YtpaedhlacbpmpaaGreatDoor

/-
  Spans: a value, a variable's cells, a result's cells.
-/
namespace Go.Proofs.YtpaedhlacbpmpaaGreatDoor
open Go.RowKit

/-- A span as a value. -/
def SpanV (w : World) (v : Value) (lo hi : Rw) : Prop :=
  ∃ u1 u2 u3 u4, v = .agg #[.bool lo.neg, u1, u2, .bool hi.neg, u3, u4] ∧ WdsAt w u1 lo.num ∧ WdsAt w u2 lo.den ∧ WdsAt w u3 hi.num ∧ WdsAt w u4 hi.den
end Go.Proofs.YtpaedhlacbpmpaaGreatDoor

/-
  Fractions and spans in boxes: what is laid, what is read again, what is stored.
-/
namespace Go.Proofs.YtpaedhlacbpmpaaGreatDoor
open Go.RowKit

theorem RatCell.zero (w : World) : RatCell (w.alloc (.cells #[.bool false, .slice none 0 0, .slice none 0 0] 38)) w.heap.size ⟨false, [], []⟩ :=
  RatCell.made (r := ⟨false, [], []⟩) (WdsAt.nil w) (WdsAt.nil w)
theorem RatAt.parts {w : World} {v : Value} {r : Rw} (h : RatAt w v r) : ∃ n l m a1 c1 a2 c2, v = .agg #[.bool n, .slice a1 l c1, .slice a2 m c2] := by
  obtain ⟨u1, u2, rfl, h1, h2⟩ := h
  obtain ⟨a1, c1, rfl⟩ := h1.shape
  obtain ⟨a2, c2, rfl⟩ := h2.shape
  exact ⟨_, _, _, _, _, _, _, rfl⟩
/-- A fraction that is returned, and the block in which it is laid. -/
theorem RatAt.box {w : World} {v : Value} {r : Rw} (h : RatAt w v r) : ∃ n l m a1 c1 a2 c2 w', v = .agg #[.bool n, .slice a1 l c1, .slice a2 m c2] ∧ w' = w.alloc (.cells #[.bool n, .slice a1 l c1, .slice a2 m c2] 38) ∧
    RatCell w' w.heap.size r ∧ Kept w w' ∧ RatAt w' (.agg #[.bool n, .slice a1 l c1, .slice a2 m c2]) r ∧ w'.heap.size = w.heap.size + 1 := by
  obtain ⟨u1, u2, rfl, h1, h2⟩ := h
  obtain ⟨a1, c1, rfl⟩ := h1.shape
  obtain ⟨a2, c2, rfl⟩ := h2.shape
  exact ⟨_, _, _, _, _, _, _, _, rfl, rfl, RatCell.made h1 h2, (Kept.refl _).alloc _, ⟨_, _, rfl, h1.kept ((Kept.refl _).alloc _), h2.kept ((Kept.refl _).alloc _)⟩, by simp⟩
/-- A fraction that is read again. -/
theorem RatCell.read {w : World} {g : Nat} {r : Rw} (h : RatCell w g r) : ∃ n l m a1 c1 a2 c2, w.cell? ⟨g, 0, none⟩ = some (.bool n) ∧ w.cell? ⟨g, 1, none⟩ = some (.slice a1 l c1) ∧ w.cell? ⟨g, 2, none⟩ = some (.slice a2 m c2) ∧ g < w.heap.size ∧
    Hid (RatAt w (.agg #[.bool n, .slice a1 l c1, .slice a2 m c2]) r) := by
  obtain ⟨a1, c1, a2, c2, ⟨x0, x1, x2⟩, _, hl, hx⟩ := h.at
  exact ⟨_, _, _, _, _, _, _, x0, x1, x2, hl, Lib.hid hx⟩
/-- A fraction that is stored into a variable of the call's own. -/
theorem RatCell.save {w : World} {g : Nat} {v : Value} {r0 r : Rw} (h : RatCell w g r0) (hv : RatAt w v r) : ∃ n l m a1 c1 a2 c2 w', v = .agg #[.bool n, .slice a1 l c1, .slice a2 m c2] ∧
    w' = ((w.setCell ⟨g, 0, none⟩ (.bool n)).setCell ⟨g, 1, none⟩ (.slice a1 l c1)).setCell ⟨g, 2, none⟩ (.slice a2 m c2) ∧
    ((∃ z, w.cell? ⟨g, 0, none⟩ = some z) ∧ (∃ z, w.cell? ⟨g, 1, none⟩ = some z) ∧ (∃ z, w.cell? ⟨g, 2, none⟩ = some z)) ∧
    (w.frozen? ⟨g, 0, none⟩ = false ∧ w.frozen? ⟨g, 1, none⟩ = false ∧ w.frozen? ⟨g, 2, none⟩ = false) ∧ g < w.heap.size ∧
    Hid (w'.cell? ⟨g, 0, none⟩ = some (.bool n) ∧ w'.cell? ⟨g, 1, none⟩ = some (.slice a1 l c1) ∧ w'.cell? ⟨g, 2, none⟩ = some (.slice a2 m c2)) ∧
    Hid (RatAt w' (.agg #[.bool n, .slice a1 l c1, .slice a2 m c2]) r) ∧ Hid (RatCell w' g r) ∧ Hid (∀ W, Kept W w → W.heap.size ≤ g → Kept W w') := by
  obtain ⟨u1, u2, rfl, h1, h2⟩ := hv
  obtain ⟨a1, c1, rfl⟩ := h1.shape
  obtain ⟨a2, c2, rfl⟩ := h2.shape
  obtain ⟨_, _, _, _, ⟨x0, x1, x2⟩, hf, hl, _⟩ := h.at
  have hs := h.store h1 h2
  obtain ⟨w', hw'⟩ : ∃ w', w' = ((w.setCell ⟨g, 0, none⟩ (.bool r.neg)).setCell ⟨g, 1, none⟩ (.slice a1 r.num.length c1)).setCell ⟨g, 2, none⟩ (.slice a2 r.den.length c2) := ⟨_, rfl⟩
  rw [← hw'] at hs
  refine ⟨_, _, _, _, _, _, _, w', rfl, hw', ⟨⟨_, x0⟩, ⟨_, x1⟩, ⟨_, x2⟩⟩, hf, hl, Lib.hid ?_, Lib.hid ?_, Lib.hid hs, Lib.hid fun W hk hg => ?_⟩
  · obtain ⟨_, _, _, _, hr, _⟩ := h
    have hr2 := ((hr.store 0 (.bool r.neg)).store 1 (.slice a1 r.num.length c1)).store 2 (.slice a2 r.den.length c2)
    rw [hw']
    have c := fun i (hi : i < 3) => hr2.cell (i := i) (by simpa using hi)
    exact ⟨c 0 (by omega), c 1 (by omega), c 2 (by omega)⟩
  · obtain ⟨a3, c3, a4, c4, _, hfx, _, _⟩ := h
    rw [hw']
    have hO := (((OnlyAt.refl g w).store 0 (.bool r.neg)).store 1 (.slice a1 r.num.length c1)).store 2 (.slice a2 r.den.length c2)
    have hn : ∀ k x, Value.int k x ∉ [Value.bool r0.neg, .slice a3 r0.num.length c3, .slice a4 r0.den.length c4] := fun k x hx => by simp at hx
    exact ⟨_, _, rfl, h1.apart hfx hn hO, h2.apart hfx hn hO⟩
  · rw [hw']
    exact ((hk.store hg _ _).store hg _ _).store hg _ _
theorem OnlyAt.cell {g p o : Nat} {w w' : World} {v : Value} (h : OnlyAt g w w') (hne : p ≠ g) (hc : w.cell? ⟨p, o, none⟩ = some v) : w'.cell? ⟨p, o, none⟩ = some v := by
  have hlt := World.block_lt_of_cell? _ _ hc
  have := h.block p hlt hne
  simp only [World.cell?, this] at hc ⊢
  exact hc
end Go.Proofs.YtpaedhlacbpmpaaGreatDoor
