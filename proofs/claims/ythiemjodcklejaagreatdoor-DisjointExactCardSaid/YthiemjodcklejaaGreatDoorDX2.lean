import Derived.WalkKit
import Derived.WalkSpells
import Derived.WalkLawsBesides
import Derived.Deep.QuietTactic
import Derived.BigQuiet
import Derived.Lib.Hide
import Derived.Shelf.Abstract
import Derived.Deep.RegionWith
import Derived.Laws.AppendOwnNone
import Derived.Lib.AppendZerosOnto
import Derived.Lib.SliceRun
import Derived.Lib.SlicesCompact
import Derived.Shelf.SlSortCmp.NoneTotal
import Derived.Maps.OwnOps
import Derived.Maps.OwnSet
import Derived.Maps.Views
import Derived.Deep.MidRow
import Derived.Test.YthiemjodcklejaaGreatDoorDX1
import Derived.Deep.RegionHeld3
import Derived.Deep.AppendLies
import Derived.Deep.RegionLaw
import Derived.IntWalk
import Derived.StillTailTactics
import Derived.RegionTactic
import Derived.BigRegion
import Derived.ChangeAlike
/-
  Slices of nodes of the call's own; walk: formula.Trim.
-/
namespace Go.Proofs.YthiemjodcklejaaGreatDoor
open Go.RowKit

theorem info_node : (Tryz.prog.info? 80).map (fun i => (i.zero, i.size, i.bytes)) = some (some (.agg #[.int .i64 0, .int .i64 0, .slice none 0 0]), 3, 40) := by kernel_rfl
/-- A slice of nodes of these kinds. -/
def KindsAt (w : World) (v : Value) (ks : List Int) : Prop :=
  ∃ (a : Option Addr) (c : Nat), v = .slice a ks.length c ∧ (ks.length ≤ c ∧ (a = none → c = 0)) ∧ ks.length ≤ 140737488355328 ∧
    ∀ i (h : i < ks.length), ∃ b o, a = some ⟨b, o, none⟩ ∧ ∃ (u1 : Int) (sa : Option Addr) (sn sc : Nat), w.cell? ⟨b, o + i * 3, none⟩ = some (.int .i64 ks[i]) ∧ w.cell? ⟨b, o + i * 3 + 1, none⟩ = some (.int .i64 u1) ∧ w.cell? ⟨b, o + i * 3 + 2, none⟩ = some (.slice sa sn sc)
def OwnKinds (w : World) (B : Nat) (v : Value) (ks : List Int) : Prop :=
  ∃ cells, w.ownsRow B 80 3 v ks.length cells ∧ ks.length ≤ 100000 ∧ ∀ i (h : i < ks.length), cells[i * 3]? = some (.int .i64 ks[i]) ∧ ∃ (u1 : Int) (sa : Option Addr) (sn sc : Nat), cells[i * 3 + 1]? = some (.int .i64 u1) ∧ cells[i * 3 + 2]? = some (.slice sa sn sc)
theorem OwnKinds.at {w : World} {B : Nat} {v : Value} {ks : List Int} (h : OwnKinds w B v ks) : KindsAt w v ks := by
  obtain ⟨cells, ⟨h1, h2⟩, h3, h4⟩ := h
  rcases h2 with ⟨rfl, h5⟩ | ⟨g, cap, cur, rfl, h5, h6, h7, h8, h9, h10⟩
  · have : ks = [] := List.eq_nil_of_length_eq_zero h5
    subst this
    exact ⟨none, 0, rfl, ⟨by simp, fun _ => rfl⟩, by simp, fun i h => by simp at h⟩
  · refine ⟨_, cap, rfl, ⟨h7, fun h => by cases h⟩, by omega, fun i hi => ⟨g, 0, rfl, ?_⟩⟩
    have key : ∀ j, j < ks.length * 3 → w.cell? ⟨g, j, none⟩ = cells[j]? := by
      intro j hj
      have e1 : (cur.toList.take (ks.length * 3))[j]? = cells[j]? := by rw [h10]
      rw [List.getElem?_take_of_lt hj] at e1
      simp only [World.cell?, h6]
      simpa using e1
    obtain ⟨e0, u1, sa, sn, sc, e1, e2⟩ := h4 i hi
    refine ⟨u1, sa, sn, sc, ?_, ?_, ?_⟩
    · rw [Nat.zero_add, key _ (by omega)]; exact e0
    · rw [Nat.zero_add, key _ (by omega)]; exact e1
    · rw [Nat.zero_add, key _ (by omega)]; exact e2
/-- The kinds of the first k nodes that are marked. -/
def kindsUp (V : Nat) (mark : List Bool) (nodes : List Nd) : Nat → List Int
  | 0 => []
  | k + 1 => if mark.getD (V + k) false then kindsUp V mark nodes k ++ [(nodes.getD k noNd).kind] else kindsUp V mark nodes k
theorem len_kindsUp (V : Nat) (mark : List Bool) (nodes : List Nd) (k : Nat) : (kindsUp V mark nodes k).length ≤ k := by
  induction k with
  | zero => simp [kindsUp]
  | succ k ih =>
    unfold kindsUp
    split
    · simp; omega
    · omega
/-- What the last loop keeps. -/
structure TInv (w1 w3 wr : World) (g V n : Nat) (ov : Value) (tl : List Int) (ks : List Int) (mark : List Bool) : Prop where
  tlen : tl.length = V + n
  row : RowAt wr (w1.heap.size + 1) 3 (tl.map (.int .i64))
  box : RowAt wr w1.heap.size 24 [.int .i64 V, ov, .int .i64 0]
  own : OwnKinds wr w3.heap.size ov ks
  marks : RowAt wr g 4 (mark.map .bool)
  kept : Kept w1 wr
  size : w3.heap.size ≤ wr.heap.size
def toP (V n k : Nat) : List Int := (List.range k).map (fun i : Nat => (i : Int)) ++ List.replicate (V + n - k) 0
theorem toP_step (V n k : Nat) (h : k < V) : (toP V n k).set k (k : Int) = toP V n (k + 1) := by
  unfold toP
  rw [List.set_append_right _ _ (by simp), List.range_succ, List.map_append, show V + n - k = (V + n - (k + 1)) + 1 by omega, List.replicate_succ]
  simp
theorem toP_len (V n k : Nat) (h : k ≤ V) : (toP V n k).length = V + n := by simp [toP]; omega
theorem arg_step {wo wr w5 : World} {kd kk z : Int} {uv nv : Value} {ys : List Int} {o : Obj} (hown : OwnInts wr (wo.heap.size + 2) uv ys) (hrow : RowAt wr (wo.heap.size + 1) 80 [.int .i64 kd, .int .i64 kk, uv]) (hK : Kept wo wr) (hsz : wo.heap.size + 2 ≤ wr.heap.size) (hys : ys.length ≤ 1000)
    (h5 : w5.ownsRow (wo.heap.size + 2) 3 1 nv (ys.length + 1) (ys.map (Value.int .i64) ++ [.int .i64 z])) (hg : (wr.alloc o).grownBy w5 uv.ownBlock) :
    OwnInts (w5.setCell ⟨wo.heap.size + 1, 2, none⟩ nv) (wo.heap.size + 2) nv (ys ++ [z]) ∧ RowAt (w5.setCell ⟨wo.heap.size + 1, 2, none⟩ nv) (wo.heap.size + 1) 80 [.int .i64 kd, .int .i64 kk, nv] ∧ Kept wo (w5.setCell ⟨wo.heap.size + 1, 2, none⟩ nv) ∧ wo.heap.size + 2 ≤ (w5.setCell ⟨wo.heap.size + 1, 2, none⟩ nv).heap.size := by
  have hne : some (wo.heap.size + 1) ≠ uv.ownBlock := by
    intro e
    have := (hown.1.lt _ e.symm).1
    omega
  have hb : w5.heap[wo.heap.size + 1]? = wr.heap[wo.heap.size + 1]? := (hg.block _ (by simp; omega) hne).trans (Below.heap_alloc wr o _ (by omega))
  have hbel := grown_below hg (hown.1.alloc o) (by simp; omega)
  have hk5 : Kept wo w5 := (hK.alloc o).app (hbel.mono (by omega))
  refine ⟨⟨?_, by simp; omega⟩, ?_, hk5.store (by omega) _ _, ?_⟩
  · have := ownsRow_setCell_below h5 (a := ⟨wo.heap.size + 1, 2, none⟩) (by show wo.heap.size + 1 < _; omega) nv
    simpa using this
  · have := (hrow.same hb).store 2 nv
    simpa using this
  · have h1 := hbel.size
    simp at h1
    simp [World.setCell]; omega
theorem range_other {w : World} {b o : Nat} {cs : List Value} (h : w.rangeAt b o cs) {p : Nat} (hp : b ≠ p) (i : Nat) (u : Value) : (w.setCell ⟨p, i, none⟩ u).rangeAt b o cs :=
  fun j v hj => cell_other (h j v hj) hp i u
theorem app_kind {ops : Array Oper} {rest : List Oper} {o : Oper} {a : Act} {Q : Exit → Act → World → Prop} {w : World} (hgd : o.guard = none) (s x : Operand)
    (ho : o.op = .call { callee := .builtin .append, args := #[s, x], argTypes := #[22, 22] }) (B : Nat) (v : Value) (ks : List Int) (hs : a.eval s = v) (hown : OwnKinds w B v ks)
    (g : Nat) (kd x1 : Int) (sa : Option Addr) (sn sc : Nat) (hx : a.eval x = .slice (some ⟨g, 0, none⟩) 1 1) (hc : w.rangeAt g 0 [.int .i64 kd, .int .i64 x1, .slice sa sn sc]) (hl : ks.length < 100000) (hB : B ≤ w.heap.size)
    (h : ∀ v' w', OwnKinds w' B v' (ks ++ [kd]) → w.grownBy w' v.ownBlock → Below B w w' → wpList Tryz.prog ops Q rest (a.put o.dst v') w') : wpList Tryz.prog ops Q (o :: rest) a w := by
  obtain ⟨i0, hi0, hz0, hz1, hz2⟩ := info_parts info_node
  obtain ⟨cells, hown1, hkl, hcell⟩ := hown
  refine wpList_append_own _ hgd s x 22 ho B 80 i0 _ 3 40 Tryz.underlying22 hi0 hz0 hz1 hz2 rfl (by decide) v ks.length cells hs hown1 ⟨g, 0, none⟩ 1 1 [.int .i64 kd, .int .i64 x1, .slice sa sn sc] hx rfl ?_ ?_ (by unfold maxLen; omega) (by omega) hB ?_
  · intro j u hj
    have := hc j u hj
    rw [Addr.add_mid]; exact this
  · intro u hu
    simp at hu
    rcases hu with rfl | rfl | rfl <;> rfl
  · intro v' w' h3 h4 _
    refine h v' w' ⟨cells ++ [.int .i64 kd, .int .i64 x1, .slice sa sn sc], by simpa using h3, by simp; omega, ?_⟩ h4 (grown_below h4 hown1 hB)
    intro i hi
    simp at hi
    have hcl : cells.length = ks.length * 3 := hown1.1
    by_cases hik : i < ks.length
    · obtain ⟨e0, u1, ua, un, uc, e1, e2⟩ := hcell i hik
      refine ⟨?_, u1, ua, un, uc, ?_, ?_⟩
      · rw [List.getElem?_append_left (by omega), e0, List.getElem_append_left hik]
      · rw [List.getElem?_append_left (by omega), e1]
      · rw [List.getElem?_append_left (by omega), e2]
    · have e : i = ks.length := by omega
      subst e
      refine ⟨?_, x1, sa, sn, sc, ?_, ?_⟩
      · rw [List.getElem?_append_right (by omega), hcl]; simp
      · rw [List.getElem?_append_right (by omega), hcl]; simp
      · rw [List.getElem?_append_right (by omega), hcl]; simp
theorem range_made (w : World) (x0 x1 x2 : Value) (e : TypeId) : (w.alloc (.cells #[x0, x1, x2] e)).rangeAt w.heap.size 0 [x0, x1, x2] := by
  have h := RowAt.made w #[x0, x1, x2] e
  intro j v hj
  match j, hj with
  | 0, hj => simp at hj; subst hj; exact h.cell (i := 0) (by simp)
  | 1, hj => simp at hj; subst hj; exact h.cell (i := 1) (by simp)
  | 2, hj => simp at hj; subst hj; exact h.cell (i := 2) (by simp)
theorem free_other {w : World} {a : Addr} (h : w.frozen? a = false) {p : Nat} (hp : a.block ≠ p) (i : Nat) (u : Value) : (w.setCell ⟨p, i, none⟩ u).frozen? a = false :=
  (World.frozen?_of_block (w := w) (Below.heap_setCell w ⟨p, i, none⟩ u a.block hp)).trans h
theorem Kept.free {w w' : World} (h : Kept w w') {p : Addr} (hp : p.block < w.heap.size) (hf : w.frozen? p = false) : w'.frozen? p = false := (Below.frozen h hp).trans hf
theorem range_madeS (w : World) (a : Addr) (u x0 x1 x2 : Value) (e : TypeId) : ((w.setCell a u).alloc (.cells #[x0, x1, x2] e)).rangeAt w.heap.size 0 [x0, x1, x2] := by
  have h := range_made (w.setCell a u) x0 x1 x2 e
  rwa [show (w.setCell a u).heap.size = w.heap.size by simp [World.setCell]] at h
theorem OwnKinds.kept {w w' : World} {B : Nat} {v : Value} {ks : List Int} (h : OwnKinds w B v ks) (hk : Kept w w') : OwnKinds w' B v ks := by
  obtain ⟨cells, h1, h2⟩ := h
  exact ⟨cells, own_kept h1 hk, h2⟩
theorem OwnKinds.below {w : World} {B : Nat} {v : Value} {ks : List Int} (h : OwnKinds w B v ks) {a : Addr} (ha : a.block < B) (u : Value) : OwnKinds (w.setCell a u) B v ks := by
  obtain ⟨cells, h1, h2⟩ := h
  exact ⟨cells, ownsRow_setCell_below h1 ha u, h2⟩
theorem inv_step {w1 w3 wo wr w6 : World} {g V n k : Nat} {ov nv : Value} {tl ks : List Int} {R : List Bool} {kd t : Int} {cs : Array Value} (hI : TInv w1 w3 wo g V n ov tl ks R) (hK : Kept wo wr) (h1 : w1.heap.size + 1 < w3.heap.size) (hg : w1.heap.size + 1 < g) (hg3 : g < w3.heap.size)
    (h6 : OwnKinds w6 w3.heap.size nv (ks ++ [kd])) (hg6 : ((wr.setCell ⟨w1.heap.size + 1, k, none⟩ (.int .i64 t)).alloc (.cells cs 80)).grownBy w6 ov.ownBlock) :
    TInv w1 w3 (w6.setCell ⟨w1.heap.size, 1, none⟩ nv) g V n nv (tl.set k t) (ks ++ [kd]) R := by
  have hs := hK.size
  have hs3 := hI.size
  have hown : ∀ j, j < w3.heap.size → some j ≠ ov.ownBlock := by
    intro j hj e
    obtain ⟨cells, ho, _⟩ := hI.own
    have := (ho.lt _ e.symm).1
    omega
  have hb : ∀ j, j < w3.heap.size → w6.heap[j]? = (wr.setCell ⟨w1.heap.size + 1, k, none⟩ (.int .i64 t)).heap[j]? := by
    intro j hj
    have l1 : (wr.setCell ⟨w1.heap.size + 1, k, none⟩ (.int .i64 t)).heap.size = wr.heap.size := by simp [World.setCell]
    exact (hg6.block j (by simp; omega) (hown j hj)).trans (Below.heap_alloc _ _ j (by omega))
  have hrow := (hI.row.kept hK).store k (.int .i64 t)
  rw [← List.map_set] at hrow
  have hbox := ((hI.box.kept hK).other (p := w1.heap.size + 1) (by omega) k (.int .i64 t))
  have hmk := ((hI.marks.kept hK).other (p := w1.heap.size + 1) (by omega) k (.int .i64 t))
  refine ⟨by rw [List.length_set]; exact hI.tlen, ?_, ?_, h6.below (by show w1.heap.size < _; omega) _, ?_, ?_, ?_⟩
  · exact (hrow.same (hb _ (by omega))).other (by omega) _ _
  · have := (hbox.same (hb _ (by omega))).store 1 nv
    simpa using this
  · exact (hmk.same (hb _ (by omega))).other (by omega) _ _
  · have l1 : (wr.setCell ⟨w1.heap.size + 1, k, none⟩ (.int .i64 t)).heap.size = wr.heap.size := by simp [World.setCell]
    have k1 : Kept w1 (wr.setCell ⟨w1.heap.size + 1, k, none⟩ (.int .i64 t)) := (hI.kept.trans hK).store (by omega) _ _
    have k2 : Kept w1 w6 := (k1.alloc _).app ⟨hg6.os, hg6.tape, hg6.output, hg6.size, fun j hj => hg6.block j (by simp; omega) (hown j (by omega))⟩
    exact k2.store (Nat.le_refl _) _ _
  · have l1 : (wr.setCell ⟨w1.heap.size + 1, k, none⟩ (.int .i64 t)).heap.size = wr.heap.size := by simp [World.setCell]
    have := hg6.size
    simp at this
    simp [World.setCell] at this ⊢; omega
set_option maxRecDepth 100000 in
set_option maxHeartbeats 8000000 in
theorem trim_any (v : Value) (f : Fm) (V T : Nat) (w : World) (hv : NodesAt w v f.nodes) (hok : Ok f V T) (hck : chkF f = 0) :
    Calls Tryz.prog 102 #[.agg #[.int .i64 V, v, .int .i64 T]] w fun e w' => ∃ tv, ∃ top : Int, e = .returned (.tuple #[.agg #[.int .i64 V, tv, .int .i64 top], .nilIface]) ∧ KindsAt w' tv (kindsUp V (belowK V T f.nodes) f.nodes f.nodes.length) ∧ Kept w w' := by
  have hchk := check_any v f w hv (by rw [hok.top]; have := hok.tlt; have := hok.n128; have := hok.v24; omega)
  rw [hck] at hchk
  unfold fmV at hchk
  rw [hok.vars, hok.top] at hchk
  have HCH := Lib.hid (fun W (hk : Kept w W) => check_any v f W (hv.kept hk) (by rw [hok.top]; have := hok.tlt; have := hok.n128; have := hok.v24; omega))
  have HBL := Lib.hid (fun W (hk : Kept w W) => below_any v f V T W (hv.kept hk) hok)
  have HV := Lib.hid hv
  obtain ⟨a, c, rfl, _, hl, hx⟩ := hv
  obtain ⟨n, hn⟩ : ∃ n, n = f.nodes.length := ⟨_, rfl⟩
  rw [← hn] at hl HCH HBL
  have hn9 : n ≤ 128 := by rw [hn]; exact hok.n128
  have hV9 := hok.v24
  have hT9 : T < V + n := by rw [hn]; exact hok.tlt
  have E1 := Lib.hid (show fmV (.slice a n c) f = .agg #[.int .i64 V, .slice a n c, .int .i64 T] by unfold fmV; rw [hok.vars, hok.top])
  have hch2 : ∀ W, Kept w W → Calls Tryz.prog 20 #[.agg #[.int .i64 V, .slice a n c, .int .i64 T]] W fun e w' => e = .returned (errV (chkF f)) ∧ Kept W w' := fun W hk => by have := HCH.out W hk; rw [E1.out] at this; exact this
  have HCH2 := Lib.hid hch2
  clear hch2
  clear HCH E1
  have E2 := Lib.hid (show errV (chkF f) = .nilIface by rw [hck]; rfl)
  have HX := Lib.hid hx
  have HN := Lib.hid hn
  have HO := Lib.hid hok
  rw [← hn]
  clear hx hn hok hl hck hchk
  go_enter Tryz.func102, Tryz.ntmps102
  go_wp2_with (first
    | (go_at_call 20; refine (HCH2.out _ (((Kept.refl _).alloc _).alloc _)).mono ?_; rintro e w1 ⟨rfl, hk1⟩; rw [E2.out]; have hs1 := hk1.size; simp only [World.size_alloc] at hs1; have ls0 : w.heap.size < w1.heap.size := (by omega); have ls1 : w.heap.size + 1 < w1.heap.size := (by omega); have b0 := hk1.cell (p := ⟨w.heap.size, 0, none⟩) (v := .int .i64 V) (by simp); have b1 := hk1.cell (p := ⟨w.heap.size, 1, none⟩) (v := .slice a n c) (by simp); have b2 := hk1.cell (p := ⟨w.heap.size, 2, none⟩) (v := .int .i64 T) (by simp))
    | (at_make; refine make_one 52 3 _ 8 info_int Tryz.underlying52 rfl rfl _ _ rfl (V + n) (by show Value.int .i64 ((V : Int) + (n : Int)) = .int .i64 ((V + n : Nat) : Int); rw [Int.natCast_add]) (by show Value.int .i64 ((V : Int) + (n : Int)) = .int .i64 ((V + n : Nat) : Int); rw [Int.natCast_add]) (by omega) (by unfold maxLen; omega) ?_; intro w2 hr2 hk2; simp only [World.size_alloc] at hr2; have HR2 := Lib.hid hr2; clear hr2; have hk02 := (hk1.trans ((Kept.refl _).alloc _)).trans hk2; have d0 := hk02.cell (p := ⟨w.heap.size, 0, none⟩) (v := .int .i64 V) (by simp)))
  go_loopw [7, 32] (fun _ i wr => ∃ k : Nat, k ≤ V ∧ i = .int .i64 k ∧ RowAt wr (w1.heap.size + 1) 3 ((toP V n k).map (.int .i64)) ∧ Kept (w1.alloc (.cells #[.int .i64 V, .slice none 0 0, .int .i64 0] 24)) wr) (fun _ i _ => V - (intOf i).toNat)
  case atStart => exact ⟨0, Nat.zero_le _, rfl, by simpa [toP] using HR2.out, hk2⟩
  case round =>
    clear hk2
    obtain ⟨k, hk, rfl, hrow, hK⟩ := hrel
    by_cases hlt : k < V
    · have cY := hrow.cell (i := k) (by rw [List.length_map, toP_len V n k hk]; omega)
      have fY := hrow.free k
      have hnew := hrow.store k (.int .i64 k)
      have hKn := hK.store (g := w1.heap.size + 1) (by simp) k (.int .i64 k)
      have hY1 : (k : Int) < (V : Int) + (n : Int) := by omega
      have hY2 : (k : Int) < ((V + n : Nat) : Int) := by omega
      rw [← List.map_set, toP_step V n k hlt] at hnew
      have HNW := Lib.hid hnew
      have HKN := Lib.hid hKn
      clear hnew hKn hrow hK
      go_wp2
      go_roundw
      case rel => exact ⟨k + 1, by omega, by go_num, HNW.out, HKN.out⟩
      case measure => simp [intOf]; omega
    · have e : k = V := by omega
      have htl := toP_len V n k hk
      obtain ⟨tl, htle⟩ : ∃ tl, tl = toP V n k := ⟨_, rfl⟩
      rw [← htle] at hrow htl
      have hkw := (hk1.trans ((Kept.refl _).alloc _)).trans hK
      have hkW : Kept w wr := (((Kept.refl w).alloc _).alloc _).trans hkw
      have q0 := hkw.cell (p := ⟨w.heap.size, 0, none⟩) (v := .int .i64 V) (by simp)
      have q1 := hkw.cell (p := ⟨w.heap.size, 1, none⟩) (v := .slice a n c) (by simp)
      have q2 := hkw.cell (p := ⟨w.heap.size, 2, none⟩) (v := .int .i64 T) (by simp)
      have hlt1 := hrow.lt
      have HRO := Lib.hid hrow
      have HKK := Lib.hid hK
      have HKW := Lib.hid hkW
      have hVn : (V : Int) ≤ (V : Int) + (n : Int) := by omega
      have hVn2 : (V : Int) ≤ ((V + n : Nat) : Int) := by omega
      clear e hrow hkw hkW hK htle
      go_wp2
      go_region_held3 (fun w' => w'.cell? ⟨w.heap.size, 0, none⟩ = some (.int .i64 V) ∧ w'.cell? ⟨w.heap.size, 1, none⟩ = some (.slice a n c) ∧ w'.cell? ⟨w.heap.size, 2, none⟩ = some (.int .i64 T))
        (first | go_keep | exact ⟨hk3.cell q0, hk3.cell q1, hk3.cell q2⟩)
        (first | (go_at_call 153; refine (HBL.out _ (HKW.out.drew)).mono ?_; rintro e w3 ⟨g, rfl, hg, hr3, hk3⟩))
      obtain ⟨R, hR⟩ : ∃ R, R = belowK V T f.nodes := ⟨_, rfl⟩
      rw [← hR] at hr3
      have HR3 := Lib.hid hr3
      have HRe := Lib.hid hR
      have HG3 : g < w3.heap.size := HR3.out.lt
      have hg2 : w1.heap.size + 1 < g := by have h9 : wr.heap.size ≤ g := hg; omega
      have hkw3 : Kept (w1.alloc (.cells #[.int .i64 V, .slice none 0 0, .int .i64 0] 24)) w3 := HKK.out.trans ((Kept.refl wr).drew.trans hk3)
      have hinv0 : TInv w1 w3 w3 g V n (.slice none 0 0) tl [] R := ⟨htl, HRO.out.kept ((Kept.refl wr).drew.trans hk3), (RowAt.made w1 _ _).kept hkw3, ⟨[], World.ownsRow_nil _ _ _ _, by simp, fun i h => by simp at h⟩, HR3.out, ((Kept.refl w1).alloc _).trans hkw3, Nat.le_refl _⟩
      have HI0 := Lib.hid hinv0
      have HKW1 := Lib.hid hk1
      clear hR hr3 hinv0 hkw3 hk3 q0 q1 q2 HRO HKK hg
      by_cases hn0 : n = 0
      · subst hn0
        have hkW2 := HKW1.out.trans HI0.out.kept
        have hbx := HI0.out.box
        have d0 := hkW2.cell (p := ⟨w.heap.size, 0, none⟩) (v := .int .i64 V) (by simp)
        have d2 := hkW2.cell (p := ⟨w.heap.size, 2, none⟩) (v := .int .i64 T) (by simp)
        have c0 := hbx.cell (i := 0) (by simp)
        have c1 := hbx.cell (i := 1) (by simp)
        have c2 := hbx.cell (i := 2) (by simp)
        have f2 := hbx.free 2
        have hTl : T < tl.length := by rw [HI0.out.tlen]; omega
        obtain ⟨zt, cT⟩ : ∃ z : Int, w3.cell? ⟨w1.heap.size + 1, T, none⟩ = some (.int .i64 z) := ⟨tl[T], by have := HI0.out.row.cell (i := T) (by simpa using hTl); rw [List.getElem_map] at this; exact this⟩
        have hY1 : (T : Int) < (V : Int) := by omega
        have hres : RowAt w3 (w.heap.size + 1) 24 [.int .i64 0, .slice none 0 0, .int .i64 0] := by
          have := (RowAt.made (w.alloc (.cells #[.int .i64 V, .slice a 0 c, .int .i64 T] 24)) #[.int .i64 0, .slice none 0 0, .int .i64 0] 24).kept hkW2
          simpa using this
        have r0 := hres.cell (i := 0) (by simp)
        have r1 := hres.cell (i := 1) (by simp)
        have r2 := hres.cell (i := 2) (by simp)
        have s0 := hres.free 0
        have s1 := hres.free 1
        have s2 := hres.free 2
        simp only [List.getElem_cons_succ, List.getElem_cons_zero] at r0 r1 r2 c0 c1 c2
        have ne1 : w1.heap.size ≠ w.heap.size + 1 := by omega
        have ne2 : w.heap.size + 1 ≠ w1.heap.size := by omega
        clear hbx hres
        go_wp2
        refine wp_loop_rounds 1 ?_
        rw [rounds_succ]
        go_wp2
        refine bodyPost_ret (v := .tuple #[.agg #[.int .i64 V, .slice none 0 0, .int .i64 zt], .nilIface]) ?_ rfl ⟨_, _, rfl, ?_, ?_⟩
        · simp [results, Tryz.results102, go_sem, r0, r1, r2]
        · exact ⟨none, 0, rfl, ⟨by simp [kindsUp], fun _ => rfl⟩, by simp [kindsUp], fun i h => by simp [kindsUp] at h⟩
        · have hkA : Kept w w3 := (((Kept.refl w).alloc _).alloc _).trans hkW2
          exact (((hkA.store (by omega) _ _).store (by omega) _ _).store (by omega) _ _).store (by omega) _ _
      · have hn1 : 0 < n := by omega
        have hn2 : V < V + n := by omega
        go_wp2
        go_loopw [8, 9, 10, 11, 13, 46, 66] (fun _ _ _ _ _ i _ wr => ∃ (k : Nat) (ov : Value) (tl : List Int), k ≤ n ∧ i = .int .i64 k ∧ TInv w1 w3 wr g V n ov tl (kindsUp V R f.nodes k) R) (fun _ _ _ _ _ i _ _ => n - (intOf i).toNat)
        case atStart => exact ⟨0, _, tl, Nat.zero_le _, rfl, HI0.out⟩
        case round =>
          obtain ⟨k, ov, tl, hk, rfl, hinv⟩ := hrel
          have hkW2 := HKW1.out.trans hinv.kept
          have q0 := hkW2.cell (p := ⟨w.heap.size, 0, none⟩) (v := .int .i64 V) (by simp)
          have q1 := hkW2.cell (p := ⟨w.heap.size, 1, none⟩) (v := .slice a n c) (by simp)
          have q2 := hkW2.cell (p := ⟨w.heap.size, 2, none⟩) (v := .int .i64 T) (by simp)
          by_cases hlt : k < n
          · have hRl : R.length = V + n := by rw [HRe.out, len_belowK, HN.out]
            have cm := hinv.marks.cell (i := V + k) (by simp; omega)
            rw [getD_map_bool R (V + k) (by omega)] at cm
            have hup : kindsUp V R f.nodes (k + 1) = if R.getD (V + k) false then kindsUp V R f.nodes k ++ [(f.nodes.getD k noNd).kind] else kindsUp V R f.nodes k := rfl
            have HUP := Lib.hid hup
            clear hup
            cases hmk : R.getD (V + k) false with
            | false =>
              rw [hmk] at cm
              have HMK := Lib.hid hmk
              have HI := Lib.hid hinv
              clear hmk hinv hkW2
              go_wp2
              go_roundw
              case rel => exact ⟨k + 1, ov, tl, by omega, by go_num, by rw [HUP.out, HMK.out]; exact HI.out⟩
              case measure => simp [intOf]; omega
            | true =>
              rw [hmk] at cm
              have HMK := Lib.hid hmk
              have HI := Lib.hid hinv
              clear hmk hinv
              have hkx : k < f.nodes.length := by have := HN.out; omega
              obtain ⟨b, o, rfl, u, hc1, hc2, hc3, hI⟩ := HX.out k hkx
              have hkA : Kept w wr := (((Kept.refl w).alloc (.cells #[.int .i64 V, .slice (some ⟨b, o, none⟩) n c, .int .i64 T] 24)).alloc (.cells #[.int .i64 0, .slice none 0 0, .int .i64 0] 24)).trans hkW2
              have hrange := node_range (hkA.cell hc1) (hkA.cell hc2) (hkA.cell hc3)
              obtain ⟨ax, cx, rfl, _, hlx, hcx⟩ := hI
              have HRG := Lib.hid hrange
              clear hc1 hc2 hc3 hrange
              go_wp2_with (with_reducible refine wpList_load_mid rfl 80 _ rfl b (o + k * 3) rfl _ _ HRG.out Tryz.underlying80 rfl (by kernel_rfl) ?_)
              obtain ⟨kd, hkd⟩ : ∃ x, x = f.nodes[k].kind := ⟨_, rfl⟩
              obtain ⟨kk, hkk⟩ : ∃ x, x = f.nodes[k].k := ⟨_, rfl⟩
              have hargs := HO.out.args k hkx
              have h16 := argsOk_le (HO.out.argc k hkx)
              obtain ⟨args, hag⟩ : ∃ x, x = f.nodes[k].args := ⟨_, rfl⟩
              rw [← hag] at hcx hargs hlx h16
              rw [← hkd, ← hkk, ← hag]
              obtain ⟨na, hna⟩ : ∃ x, x = args.length := ⟨_, rfl⟩
              rw [← hna] at hlx h16 ⊢
              have HKD := Lib.hid hkd
              have HCX := Lib.hid hcx
              have HAR := Lib.hid hargs
              have HNA := Lib.hid hna
              have HKA := Lib.hid hkA
              obtain ⟨i0, hi0, hz0, hz1, hz2⟩ := info_parts info_int
              have I0 := Lib.hid hi0
              have I1 := Lib.hid hz0
              have I2 := Lib.hid hz1
              have I3 := Lib.hid hz2
              have sz1 : w1.heap.size + 1 < wr.heap.size := HI.out.row.lt
              obtain ⟨wo, rfl⟩ : ∃ wo : World, wo = wr := ⟨_, rfl⟩
              clear hkd hkk hag hcx hargs hna hkA hkW2 hi0 hz0 hz1 hz2 q0 q1 q2 cm
              go_loopw [13, 66] (fun _ j wi => ∃ (p : Nat) (uv : Value) (ys : List Int), p ≤ na ∧ j = .int .i64 p ∧ ys.length ≤ p ∧ OwnInts wi (wo.heap.size + 2) uv ys ∧ RowAt wi (wo.heap.size + 1) 80 [.int .i64 kd, .int .i64 kk, uv] ∧ Kept wo wi ∧ wo.heap.size + 2 ≤ wi.heap.size) (fun _ j _ => na - (intOf j).toNat)
              case atStart => exact ⟨0, .slice none 0 0, [], Nat.zero_le _, rfl, by simp, OwnInts.nil _ _, by have := RowAt.made (wo.alloc (.cells #[.int .i64 kd, .int .i64 kk, .slice ax na cx] 80)) #[.int .i64 kd, .int .i64 kk, .slice none 0 0] 80; simpa using this, ((Kept.refl _).alloc _).alloc _, by simp⟩
              case round =>
                obtain ⟨p, uv, ys, hp, rfl, hys, hown, hrow, hK, hsz⟩ := hrel
                by_cases hpn : p < na
                · have hpx : p < args.length := by have := HNA.out; omega
                  obtain ⟨b2, o2, rfl, hc0⟩ := HCX.out p hpx
                  have hcell := (HKA.out.trans hK).cell hc0
                  obtain ⟨y, hy⟩ : ∃ y, y = args[p] := ⟨_, rfl⟩
                  have hy2 := HAR.out args[p] (List.getElem_mem _)
                  rw [← hy] at hcell hy2
                  obtain ⟨Y, hY⟩ := Int.eq_ofNat_of_zero_le hy2.1
                  subst hY
                  have hYl : Y < tl.length := by rw [HI.out.tlen]; omega
                  have cT := hK.cell (HI.out.row.cell (i := Y) (by simpa using hYl))
                  obtain ⟨z, hz⟩ : ∃ z, z = tl[Y] := ⟨_, rfl⟩
                  simp only [List.getElem_map] at cT
                  rw [← hz] at cT
                  have hY1 : (Y : Int) < (V : Int) + (n : Int) := by omega
                  have hY2 : (Y : Int) < ((V + n : Nat) : Int) := by omega
                  have cB := hrow.cell (i := 2) (by simp)
                  have fB := hrow.free 2
                  simp only [List.getElem_cons_succ, List.getElem_cons_zero] at cB
                  have hszi : wo.heap.size + 1 < wr.heap.size := by omega
                  have hszj : w1.heap.size + 1 < wr.heap.size := by omega
                  have HOWN := Lib.hid hown
                  have HROW := Lib.hid hrow
                  have HK := Lib.hid hK
                  have hfar : some (wo.heap.size + 1) ≠ uv.ownBlock := by
                    intro e
                    have := (hown.1.lt _ e.symm).1
                    omega
                  have HFAR := Lib.hid hfar
                  clear hc0 hy hz hown hrow hK hfar
                  go_wp2
                  go_region_law ((refine step_append_lies _ (by rfl) _ _ _ (by rfl) (wo.heap.size + 2) 3 i0 _ 1 8 Tryz.underlying52 I0.out I1.out I2.out I3.out rfl (by omega) uv ys.length _ (by rfl) ((HOWN.out.1.alloc _).drew) ⟨wr.heap.size, 0, none⟩ 1 1 [.int .i64 z] (by rfl) (by rfl) (World.news_of_block (cs := #[.int .i64 z]) (t := 3) (fr := (0, 0)) (heap_alloc_new wr _)) (by simp [Value.oneCell']) (by omega) (by unfold maxLen; omega) (by omega) (by simp; omega) (wr.heap.size + 1) (by simp) ?_; intro gg cap w5 hown5 hgrow hat hlt5; have st5 := hgrow.cell (a := ⟨wo.heap.size + 1, 2, none⟩) (v := uv) (((Kept.refl wr).alloc _).cell cB) HFAR.out; have sf5 := (World.frozen?_of_block (a := ⟨wo.heap.size + 1, 2, none⟩) (hgrow.block (wo.heap.size + 1) (by simp; omega) HFAR.out)).trans ((Below.frozen ((Kept.refl wr).alloc _) (p := ⟨wo.heap.size + 1, 2, none⟩) (by simp; omega)).trans fB)))
                  all_goals go_wp2
                  all_goals
                    have R := arg_step (o := .cells #[.int .i64 z] 3) HOWN.out HROW.out HK.out hsz (by omega) hown5 ⟨hgrow.os, hgrow.tape, hgrow.output, hgrow.size, hgrow.block⟩
                    go_roundw
                    case rel => exact ⟨p + 1, _, _, by omega, by go_num, by simp; omega, R.1, R.2.1, R.2.2.1, R.2.2.2⟩
                    case measure => simp [intOf]; omega
                · obtain ⟨ks, hks⟩ : ∃ ks, ks = kindsUp V R f.nodes k := ⟨_, rfl⟩
                  have hkl := len_kindsUp V R f.nodes k
                  rw [← hks] at HI HUP hkl
                  have HKL := Lib.hid (show ks.length < 100000 by omega)
                  have hkc := (HKW1.out.trans HI.out.kept).trans hK
                  have q0 := hkc.cell (p := ⟨w.heap.size, 0, none⟩) (v := .int .i64 V) (by simp)
                  have hbx := HI.out.box.kept hK
                  have c5 := hbx.cell (i := 1) (by simp)
                  have f5 := hbx.free 1
                  have hrt := HI.out.row.kept hK
                  have cT := hrt.cell (i := V + k) (by simp [HI.out.tlen]; omega)
                  have fT := hrt.free (V + k)
                  have hY1 : (V : Int) + (k : Int) < (V : Int) + (n : Int) := by omega
                  have hY2 : (V : Int) + (k : Int) < ((V + n : Nat) : Int) := by omega
                  have szz : w1.heap.size < wr.heap.size := by omega
                  have hrng : wr.rangeAt (wo.heap.size + 1) 0 [.int .i64 kd, .int .i64 kk, uv] := by
                    intro j v hj
                    match j, hj with
                    | 0, hj => simp at hj; subst hj; exact hrow.cell (i := 0) (by simp)
                    | 1, hj => simp at hj; subst hj; exact hrow.cell (i := 1) (by simp)
                    | 2, hj => simp at hj; subst hj; exact hrow.cell (i := 2) (by simp)
                  simp only [List.getElem_cons_succ, List.getElem_cons_zero] at c5
                  obtain ⟨oa, oc, hov, _⟩ := HI.out.own.at
                  subst hov
                  obtain ⟨on, hon⟩ : ∃ on, on = ks.length := ⟨_, rfl⟩
                  rw [← hon] at HI c5 hbx hkl
                  obtain ⟨ua, un, uc, huv⟩ := hown.ints.shape
                  subst huv
                  have HRNG := Lib.hid (fun x => range_other hrng (p := w1.heap.size + 1) (by omega) (V + k) x)
                  have HRT := Lib.hid hrt
                  have HBX := Lib.hid hbx
                  have HK := Lib.hid hK
                  have HON := Lib.hid hon
                  clear hrng hrt hbx hK hkc hks hrow hown hon
                  have g3 : g < w3.heap.size := HG3
                  have g4 : w1.heap.size + 1 < w3.heap.size := by omega
                  have hok1 := (HI.out.own.kept HK.out)
                  have HOK1 := Lib.hid (fun x => (hok1.below (a := ⟨w1.heap.size + 1, V + k, none⟩) (by show w1.heap.size + 1 < _; omega) x).kept ((Kept.refl _).alloc (.cells #[.int .i64 kd, .int .i64 kk, .slice ua un uc] 80)))
                  have hne5 : some w1.heap.size ≠ (Value.slice oa on oc).ownBlock := by
                    intro e
                    obtain ⟨cells, ho, _⟩ := HI.out.own
                    have := (ho.lt _ e.symm).1
                    omega
                  have HNE5 := Lib.hid hne5
                  have hw3r : w3.heap.size ≤ wr.heap.size := Nat.le_trans HI.out.size HK.out.size
                  clear hok1 hne5
                  go_wp2_with (first
                    | (with_reducible refine wpList_load_mid rfl 80 _ rfl (wo.heap.size + 1) 0 rfl _ _ (HRNG.out _) Tryz.underlying80 rfl (by kernel_rfl) ?_)
                    | (at_builtin; refine app_kind rfl _ _ rfl w3.heap.size _ ks rfl (HOK1.out _) _ kd kk ua un uc rfl (range_madeS _ _ _ _ _ _ _) HKL.out (by simp [World.setCell]; omega) ?_; intro nv w6 hown6 hg6 hb6; obtain ⟨xa, xc, rfl, _⟩ := hown6.at; have HOWN6 := Lib.hid hown6; clear hown6; have st5 := hg6.cell (a := ⟨w1.heap.size, 1, none⟩) (v := .slice oa on oc) (((Kept.refl _).alloc _).cell (cell_other c5 (p := w1.heap.size + 1) (by show w1.heap.size ≠ _; omega) _ _)) HNE5.out; have sf5 := (World.frozen?_of_block (a := ⟨w1.heap.size, 1, none⟩) (hg6.block w1.heap.size (by simp [World.setCell]; omega) HNE5.out)).trans (((Kept.refl _).alloc _).free (p := ⟨w1.heap.size, 1, none⟩) (by simp [World.setCell]; omega) (free_other f5 (p := w1.heap.size + 1) (by show w1.heap.size ≠ _; omega) _ _))))
                  have RI := inv_step (kd := kd) (t := (V : Int) + (on : Int)) HI.out HK.out g4 hg2 g3 HOWN6.out ⟨hg6.os, hg6.tape, hg6.output, hg6.size, hg6.block⟩
                  rw [show (ks ++ [kd]).length = ks.length + 1 by simp] at RI
                  go_roundw
                  case rel => exact ⟨k + 1, _, _, by omega, by go_num, by rw [HUP.out, HMK.out, if_pos rfl, show (f.nodes.getD k noNd).kind = kd by rw [HKD.out]; simp [List.getD_eq_getElem?_getD, hkx]]; exact RI⟩
                  case measure => simp [intOf]; omega
          · have e : k = n := by omega
            subst e
            obtain ⟨oa, oc, hov, _⟩ := hinv.own.at
            subst hov
            have hbx := hinv.box
            have c0 := hbx.cell (i := 0) (by simp)
            have c1 := hbx.cell (i := 1) (by simp)
            have c2 := hbx.cell (i := 2) (by simp)
            have f2 := hbx.free 2
            have hTl : T < tl.length := by rw [hinv.tlen]; omega
            obtain ⟨zt, cT⟩ : ∃ z : Int, wr.cell? ⟨w1.heap.size + 1, T, none⟩ = some (.int .i64 z) := ⟨tl[T], by have := hinv.row.cell (i := T) (by simpa using hTl); rw [List.getElem_map] at this; exact this⟩
            have hY1 : (T : Int) < (V : Int) + (k : Int) := by omega
            have hY2 : (T : Int) < ((V + k : Nat) : Int) := by omega
            have hres : RowAt wr (w.heap.size + 1) 24 [.int .i64 0, .slice none 0 0, .int .i64 0] := by
              have := (RowAt.made (w.alloc (.cells #[.int .i64 V, .slice a k c, .int .i64 T] 24)) #[.int .i64 0, .slice none 0 0, .int .i64 0] 24).kept hkW2
              simpa using this
            have r0 := hres.cell (i := 0) (by simp)
            have r1 := hres.cell (i := 1) (by simp)
            have r2 := hres.cell (i := 2) (by simp)
            have s0 := hres.free 0
            have s1 := hres.free 1
            have s2 := hres.free 2
            simp only [List.getElem_cons_succ, List.getElem_cons_zero] at r0 r1 r2
            simp only [List.getElem_cons_succ, List.getElem_cons_zero] at c0 c1 c2
            have HI := Lib.hid hinv
            have ne1 : w1.heap.size ≠ w.heap.size + 1 := by omega
            have ne2 : w.heap.size + 1 ≠ w1.heap.size := by omega
            clear hinv hbx hres
            go_wp2
            refine bodyPost_ret (v := .tuple #[.agg #[.int .i64 V, .slice oa (kindsUp V R f.nodes k).length oc, .int .i64 zt], .nilIface]) ?_ rfl ⟨_, _, rfl, ?_, ?_⟩
            · simp [results, Tryz.results102, go_sem, r0, r1, r2]
            · rw [← HRe.out]
              have h3 : w1.heap.size + 1 < w3.heap.size := by omega
              exact ((((HI.out.own.below (a := ⟨w1.heap.size, 2, none⟩) (by show w1.heap.size < _; omega) _).below (a := ⟨w.heap.size + 1, 0, none⟩) (by show w.heap.size + 1 < _; omega) _).below (a := ⟨w.heap.size + 1, 1, none⟩) (by show w.heap.size + 1 < _; omega) _).below (a := ⟨w.heap.size + 1, 2, none⟩) (by show w.heap.size + 1 < _; omega) _).at
            · have hkA : Kept w wr := (((Kept.refl w).alloc _).alloc _).trans hkW2
              exact (((hkA.store (by omega) _ _).store (by omega) _ _).store (by omega) _ _).store (by omega) _ _
end Go.Proofs.YthiemjodcklejaaGreatDoor

/-
  Walks: formula.Trim of a formula that is refused; coherent.Syntax.
-/
namespace Go.Proofs.YthiemjodcklejaaGreatDoor
open Go.RowKit

/-- No negation and no exclusive or. -/
def monoK (ks : List Int) : Bool := ks.all fun k => !(k == 1 || k == 5)
def synK (V T : Nat) (f : Fm) : Bool := monoK (kindsUp V (belowK V T f.nodes) f.nodes f.nodes.length)

set_option maxHeartbeats 4000000 in
theorem syntax_ok (v : Value) (f : Fm) (V T : Nat) (w : World) (hv : NodesAt w v f.nodes) (hok : Ok f V T) (hck : chkF f = 0) :
    Calls Tryz.prog 141 #[.agg #[.int .i64 V, v, .int .i64 T]] w fun e w' => e = .returned (.tuple #[.bool (synK V T f), .nilIface]) ∧ Kept w w' := by
  have H := Lib.hid (fun W (hk : Kept w W) => trim_any v f V T W (hv.kept hk) hok hck)
  have hlen := len_kindsUp V (belowK V T f.nodes) f.nodes f.nodes.length
  have h128 := hok.n128
  unfold synK
  obtain ⟨ks, hks⟩ : ∃ ks, ks = kindsUp V (belowK V T f.nodes) f.nodes f.nodes.length := ⟨_, rfl⟩
  rw [← hks] at H hlen ⊢
  obtain ⟨r, hr⟩ : ∃ r, r = monoK ks := ⟨_, rfl⟩
  rw [← hr]
  have HR := Lib.hid hr
  obtain ⟨n, hn⟩ : ∃ n, n = ks.length := ⟨_, rfl⟩
  have hn9 : n ≤ 128 := by omega
  have HN := Lib.hid hn
  clear hv hok hck hks hr hlen h128 hn
  go_enter Tryz.func141, Tryz.ntmps141
  go_wp2_with (go_at_call 102; refine (H.out _ ((Kept.refl _).alloc _)).mono ?_; rintro e w1 ⟨tv, top, rfl, hkd, hk1⟩; obtain ⟨ta, tc, rfl, _, _, htc⟩ := hkd; rw [← HN.out]; have HTC := Lib.hid htc; clear htc; have hs1 := hk1.size; simp only [World.size_alloc] at hs1)
  have hk2 : Kept w (w1.alloc (.cells #[.int .i64 V, .slice ta n tc, .int .i64 top] 24)) := (((Kept.refl _).alloc _).trans hk1).alloc _
  go_loopw [7, 19] (fun _ i wr => ∃ k : Nat, k ≤ n ∧ i = .int .i64 k ∧ Hid (monoK (ks.take k) = true) ∧ Kept w1 wr ∧ Kept w wr) (fun _ i _ => n - (intOf i).toNat)
  case atStart => exact ⟨0, Nat.zero_le _, rfl, Lib.hid rfl, (Kept.refl _).alloc _, hk2⟩
  case round =>
    clear hk2
    obtain ⟨k, hk, rfl, HM, hK, hKw⟩ := hrel
    by_cases hlt : k < n
    · have hkx : k < ks.length := by have := HN.out; omega
      obtain ⟨b, o, rfl, u1, sa, sn, sc, c0, c1, c2⟩ := HTC.out k hkx
      have hstep : monoK (ks.take (k + 1)) = (monoK (ks.take k) && !(ks[k] == 1 || ks[k] == 5)) := by
        unfold monoK; rw [List.take_succ_eq_append_getElem hkx, List.all_append]; simp
      have hbad : (ks[k] == 1 || ks[k] == 5) = true → r = false := by
        intro h; rw [HR.out, monoK, List.all_eq_false]; exact ⟨ks[k], List.getElem_mem _, by rw [h]; simp⟩
      obtain ⟨kd, hkd⟩ : ∃ kd, kd = ks[k] := ⟨_, rfl⟩
      rw [← hkd] at c0 hstep hbad
      have hrange : wr.rangeAt b (o + k * 3) [.int .i64 kd, .int .i64 u1, .slice sa sn sc] := by
        intro j v hj
        match j, hj with
        | 0, hj => simp at hj; subst hj; exact hK.cell c0
        | 1, hj => simp at hj; subst hj; exact hK.cell c1
        | 2, hj => simp at hj; subst hj; exact hK.cell c2
      have HRG := Lib.hid hrange
      have HS := Lib.hid hstep
      have HB := Lib.hid hbad
      clear c0 c1 c2 hrange hstep hbad hkd
      by_cases h1 : kd = 1
      · subst h1
        go_wp2_with (with_reducible refine wpList_load_mid rfl 80 _ rfl b (o + k * 3) rfl _ _ HRG.out Tryz.underlying80 rfl (by kernel_rfl) ?_)
        go_ret2
        exact ⟨by rw [HB.out rfl]; rfl, (hKw.alloc _)⟩
      · by_cases h5 : kd = 5
        · subst h5
          go_wp2_with (with_reducible refine wpList_load_mid rfl 80 _ rfl b (o + k * 3) rfl _ _ HRG.out Tryz.underlying80 rfl (by kernel_rfl) ?_)
          go_ret2
          exact ⟨by rw [HB.out rfl]; rfl, (hKw.alloc _)⟩
        · have b1 : (kd == 1) = false := by simpa using h1
          have b5 : (kd == 5) = false := by simpa using h5
          go_wp2_with (with_reducible refine wpList_load_mid rfl 80 _ rfl b (o + k * 3) rfl _ _ HRG.out Tryz.underlying80 rfl (by kernel_rfl) ?_)
          go_roundw
          case rel => exact ⟨k + 1, by omega, by go_num, Lib.hid (by rw [HS.out, HM.out, b1, b5]; rfl), hK.alloc _, hKw.alloc _⟩
          case measure => simp [intOf]; omega
    · have e : r = true := by
        have := HM.out
        rw [List.take_of_length_le (by have := HN.out; omega)] at this
        rw [HR.out]; exact this
      have HE := Lib.hid e
      clear e
      go_wp2
      go_ret2
      exact ⟨by rw [HE.out]; rfl, hKw⟩
end Go.Proofs.YthiemjodcklejaaGreatDoor

/-
  Rows of families; walk: bottomup.fold.
-/
namespace Go.Proofs.YthiemjodcklejaaGreatDoor
open Go.RowKit

/-- Families in memory: a slice of slices of masks. -/
def FamsAt (w : World) (v : Value) (xss : List (List Nat)) : Prop := RowsAt SetsAt w v xss
/-- Families of the call's own, their rows too. -/
def OwnFams (w : World) (B : Nat) (v : Value) (xss : List (List Nat)) : Prop :=
  ∃ us : List Value, us.length = xss.length ∧ w.ownsRow B 52 1 v xss.length us ∧ xss.length ≤ 140737488355328 ∧ ∀ i (h : i < us.length) (h' : i < xss.length), OwnSets w 0 us[i] xss[i]
def foldK (op : List Nat → List Nat → Option (List Nat)) (first : List Nat) (args : List (List Nat)) : Option (List Nat) := args.foldlM op first
/-- A function value that joins two lists of sets. -/
def Joins (g : Nat) (op : List Nat → List Nat → Option (List Nat)) : Prop :=
  ∀ (a b : List Nat) (va vb : Value) (w : World), SetsAt w va a → SetsAt w vb b → Calls Tryz.prog g #[va, vb] w fun e w' => LRes w' w.heap.size e (op a b) ∧ Kept w w'
end Go.Proofs.YthiemjodcklejaaGreatDoor

/-
  Walks: bottomup.vote.
-/
namespace Go.Proofs.YthiemjodcklejaaGreatDoor
open Go.RowKit

/-- One place of the next row. -/
def nextAt (arg : List Nat) (t : List (List Nat)) (m : Nat) : Option (List Nat) := (productK arg (t.getD m [])).bind fun x => plusK x (t.getD (m + 1) [])
def voteUp (arg : List Nat) (t : List (List Nat)) : Nat → Option (List (List Nat))
  | 0 => some [[0]]
  | m + 1 => (voteUp arg t m).bind fun acc => (nextAt arg t m).map fun x => acc ++ [x]
def voteDown (k : Nat) (args : List (List Nat)) : Nat → List (List Nat) → Option (List (List Nat))
  | 0, t => some t
  | q + 1, t => (voteUp (args.getD q []) t k).bind (voteDown k args q)
/-- The sets of which at least k arguments are true. -/
def voteK (args : List (List Nat)) (k : Nat) : Option (List Nat) := (voteDown k args args.length ([0] :: List.replicate k [])).map fun t => t.getD k []
end Go.Proofs.YthiemjodcklejaaGreatDoor

/-
  Walks: bottomup.node.
-/
namespace Go.Proofs.YthiemjodcklejaaGreatDoor
open Go.RowKit

def nodeK (kind : Int) (k : Int) (fams : List (List Nat)) : Option (List Nat) :=
  if kind = 0 then (if k = 1 then some [0] else some []) else if kind = 3 then foldK plusK [] fams else if kind = 2 then foldK productK [0] fams else voteK fams k.toNat

end Go.Proofs.YthiemjodcklejaaGreatDoor

/-
  Walks: bottomup.Families.
-/
namespace Go.Proofs.YthiemjodcklejaaGreatDoor
open Go.RowKit

def famArg (V : Nat) (out : List (List Nat)) (a : Int) : List Nat := if a < V then [2 ^ a.toNat] else out.getD (a - V).toNat []
def famStep (V : Nat) (mark : List Bool) (nodes : List Nd) (out : List (List Nat)) (i : Nat) : Option (List (List Nat)) :=
  if mark.getD (V + i) false then (nodeK (nodes.getD i noNd).kind (nodes.getD i noNd).k ((nodes.getD i noNd).args.map (famArg V out))).map fun l => out.set i l else some out
def famsUp (V : Nat) (mark : List Bool) (nodes : List Nd) : Nat → Option (List (List Nat))
  | 0 => some (List.replicate nodes.length [])
  | k + 1 => (famsUp V mark nodes k).bind fun out => famStep V mark nodes out k
/-- The families of all needed nodes. -/
def famsK (V T : Nat) (nodes : List Nd) : Option (List (List Nat)) := famsUp V (belowK V T nodes) nodes nodes.length
theorem mem_kindsUp (V : Nat) (mark : List Bool) (nodes : List Nd) (i : Nat) (h : mark.getD (V + i) false = true) : ∀ k, i < k → (nodes.getD i noNd).kind ∈ kindsUp V mark nodes k := by
  intro k hk
  induction k with
  | zero => omega
  | succ k ih =>
    unfold kindsUp
    by_cases e : i = k
    · subst e; rw [h]; simp
    · split
      · exact List.mem_append.2 (.inl (ih (by omega)))
      · exact ih (by omega)
theorem kind_mono {V T : Nat} {f : Fm} (hok : Ok f V T) (hs : synK V T f = true) (i : Nat) (hi : i < f.nodes.length) (h : (belowK V T f.nodes).getD (V + i) false = true) :
    f.nodes[i].kind = 0 ∨ f.nodes[i].kind = 2 ∨ f.nodes[i].kind = 3 ∨ f.nodes[i].kind = 4 := by
  have h1 := mem_kindsUp V _ f.nodes i h f.nodes.length hi
  unfold synK monoK at hs
  have h2 := List.all_eq_true.1 hs _ h1
  rw [show f.nodes.getD i noNd = f.nodes[i] by simp [List.getD_eq_getElem?_getD, hi]] at h2
  have h3 := hok.kind i hi
  simp at h2
  omega
def FRes (w' : World) (B : Nat) (e : Ending) (r : Option (List (List Nat))) : Prop :=
  match r with
  | some l => ∃ v, e = .returned (.tuple #[v, .nilIface]) ∧ OwnFams w' B v l
  | none => e = .returned (.tuple #[.slice none 0 0, errV 4])
end Go.Proofs.YthiemjodcklejaaGreatDoor

/-
  Plain: minimal families are the ones of the upward closed sets of masks; the closure of Plus and Product.
-/
namespace Go.Proofs.YthiemjodcklejaaGreatDoor

theorem subN_iff {a b : Nat} : subN a b = true ↔ ∀ i, a.testBit i = true → b.testBit i = true := by
  unfold subN sdiff
  rw [beq_iff_eq]
  constructor
  · intro h i hi
    have h1 : (a ^^^ (a &&& b)).testBit i = false := by rw [h]; simp
    simp [hi] at h1
    exact h1
  · intro h
    apply Nat.eq_of_testBit_eq
    intro i
    simp only [Nat.testBit_xor, Nat.testBit_and, Nat.zero_testBit]
    cases ha : a.testBit i with
    | false => simp
    | true => simp [h i ha]
theorem subN_refl (a : Nat) : subN a a = true := subN_iff.2 fun _ h => h
theorem subN_tr {a b c : Nat} (h1 : subN a b = true) (h2 : subN b c = true) : subN a c = true := subN_iff.2 fun i h => subN_iff.1 h2 i (subN_iff.1 h1 i h)
theorem subN_half {a b : Nat} (h : subN a b = true) : a % 2 ≤ b % 2 ∧ subN (a / 2) (b / 2) = true := by
  have h' := subN_iff.1 h
  refine ⟨?_, subN_iff.2 fun i hi => ?_⟩
  · have h0 := h' 0
    simp only [Nat.testBit_zero, decide_eq_true_eq] at h0
    omega
  · have h0 := h' (i + 1)
    simp only [Nat.testBit_succ] at h0
    exact h0 hi
theorem pc_sub (n : Nat) : ∀ a b, b ≤ n → subN a b = true → pc a ≤ pc b ∧ (pc a = pc b → a = b) := by
  induction n using Nat.strongRecOn with
  | ind n ih =>
    intro a b hb h
    by_cases h0 : b = 0
    · subst h0
      have : a = 0 := by
        apply Nat.eq_of_testBit_eq
        intro i
        cases ha : a.testBit i with
        | false => simp
        | true => have := subN_iff.1 h i ha; simp at this
      subst this
      exact ⟨Nat.le_refl _, fun _ => rfl⟩
    · obtain ⟨h1, h2⟩ := subN_half h
      have := ih (b / 2) (by omega) (a / 2) (b / 2) (Nat.le_refl _) h2
      rw [pc_one a, pc_one b]
      refine ⟨by omega, fun he => ?_⟩
      have e2 : pc (a / 2) = pc (b / 2) := by omega
      have := this.2 e2
      omega
theorem subN_le {a b : Nat} (h : subN a b = true) : pc a ≤ pc b ∧ (pc a = pc b → a = b) := pc_sub b a b (Nat.le_refl _) h
theorem subN_anti {a b : Nat} (h1 : subN a b = true) (h2 : subN b a = true) : a = b := by
  have := subN_le h1; have := subN_le h2; exact (subN_le h1).2 (by omega)
theorem not_lt_sub {a b : Nat} (h : subN a b = true) (h2 : ltK b a) : False := by
  have h1 := subN_le h
  unfold ltK at h2
  rcases h2 with h2 | h2
  · omega
  · have := h1.2 (by omega); omega

theorem mem_foldN (l : List Nat) : ∀ out x, (out ++ l).Pairwise ltK → (x ∈ l.foldl keepN out ↔ x ∈ out ∨ x ∈ l ∧ ∀ y, y ∈ out ∨ y ∈ l → subN y x = true → y = x) := by
  induction l with
  | nil => intro out x _; simp
  | cons s l ih =>
    intro out x hp
    have hp' := List.pairwise_append.1 hp
    have hs := List.pairwise_cons.1 hp'.2.1
    show x ∈ l.foldl keepN (keepN out s) ↔ _
    by_cases hk : out.any (fun t => subN t s) = true
    · rw [show keepN out s = out from if_pos hk]
      obtain ⟨t, ht, hts⟩ := List.any_eq_true.1 hk
      rw [ih out x (List.pairwise_append.2 ⟨hp'.1, hs.2, fun a ha b hb => hp'.2.2 a ha b (List.mem_cons_of_mem _ hb)⟩)]
      constructor
      · rintro (h | ⟨h1, h2⟩)
        · exact .inl h
        · refine .inr ⟨List.mem_cons_of_mem _ h1, ?_⟩
          rintro y (hy | hy) hyx
          · exact h2 y (.inl hy) hyx
          · rcases List.mem_cons.1 hy with e | e
            · subst e
              have := h2 t (.inl ht) (subN_tr hts hyx)
              subst this
              exact absurd (hp'.2.2 t ht t (List.mem_cons_of_mem _ h1)) (ltK_irr t)
            · exact h2 y (.inr e) hyx
      · rintro (h | ⟨h1, h2⟩)
        · exact .inl h
        · rcases List.mem_cons.1 h1 with e | e
          · subst e
            have := h2 t (.inl ht) hts
            subst this
            exact absurd (hp'.2.2 t ht t (List.mem_cons_self ..)) (ltK_irr t)
          · exact .inr ⟨e, fun y hy => h2 y (hy.imp id (List.mem_cons_of_mem _))⟩
    · rw [show keepN out s = out ++ [s] from if_neg hk]
      rw [ih (out ++ [s]) x (by simpa using hp)]
      have hk' : ∀ t ∈ out, ¬ subN t s = true := fun t ht h => hk (List.any_eq_true.2 ⟨t, ht, h⟩)
      have ms : ∀ z, z ∈ out ++ [s] ↔ z ∈ out ∨ z = s := fun z => by simp
      simp only [ms, List.mem_cons]
      constructor
      · rintro ((h | h) | ⟨h1, h2⟩)
        · exact .inl h
        · subst h
          refine .inr ⟨.inl rfl, ?_⟩
          rintro y (hy | hy | hy) hyx
          · exact absurd hyx (hk' y hy)
          · exact hy
          · exact (not_lt_sub hyx (hs.1 y hy)).elim
        · refine .inr ⟨.inr h1, ?_⟩
          rintro y (hy | hy | hy) hyx
          · exact h2 y (.inl (.inl hy)) hyx
          · exact h2 y (.inl (.inr hy)) hyx
          · exact h2 y (.inr hy) hyx
      · rintro (h | ⟨h1 | h1, h2⟩)
        · exact .inl (.inl h)
        · exact .inl (.inr h1)
        · refine .inr ⟨h1, ?_⟩
          rintro y ((hy | hy) | hy) hyx
          · exact h2 y (.inl hy) hyx
          · exact h2 y (.inr (.inl hy)) hyx
          · exact h2 y (.inr (.inr hy)) hyx
theorem pair_foldN (l : List Nat) : ∀ out, (out ++ l).Pairwise ltK → (l.foldl keepN out).Pairwise ltK := by
  induction l with
  | nil => intro out h; simpa using h
  | cons s l ih =>
    intro out h
    show (l.foldl keepN (keepN out s)).Pairwise ltK
    by_cases hk : out.any (fun t => subN t s) = true
    · rw [show keepN out s = out from if_pos hk]
      refine ih out (List.Pairwise.sublist ?_ h)
      exact List.Sublist.append_left (List.sublist_cons_self s l) out
    · rw [show keepN out s = out ++ [s] from if_neg hk]
      exact ih _ (by simpa using h)
theorem mem_minK_iff (l : List Nat) (x : Nat) : x ∈ minK l ↔ x ∈ l ∧ ∀ y ∈ l, subN y x = true → y = x := by
  unfold minK minN
  rw [mem_foldN (sortK l) [] x (by simpa using pair_sortK l)]
  simp [mem_sortK]
theorem pair_minK (l : List Nat) : (minK l).Pairwise ltK := pair_foldN _ [] (by simpa using pair_sortK l)

/-- s contains a set of the list. -/
def up (l : List Nat) (s : Nat) : Prop := ∃ t ∈ l, subN t s = true
theorem exists_min (l : List Nat) : ∀ (n : Nat) (t : Nat), pc t ≤ n → t ∈ l → ∃ y ∈ minK l, subN y t = true := by
  intro n
  induction n with
  | zero =>
    intro t hn ht
    refine ⟨t, (mem_minK_iff l t).2 ⟨ht, fun y hy h => ?_⟩, subN_refl t⟩
    have := subN_le h
    exact this.2 (by omega)
  | succ n ih =>
    intro t hn ht
    by_cases h : ∃ y ∈ l, subN y t = true ∧ y ≠ t
    · obtain ⟨y, hy, h1, h2⟩ := h
      have := subN_le h1
      have h3 : pc y ≤ n := by
        by_cases e : pc y = pc t
        · exact absurd (this.2 e) h2
        · omega
      obtain ⟨z, hz, h4⟩ := ih y h3 hy
      exact ⟨z, hz, subN_tr h4 h1⟩
    · exact ⟨t, (mem_minK_iff l t).2 ⟨ht, fun y hy h1 => Classical.byContradiction fun h2 => h ⟨y, hy, h1, h2⟩⟩, subN_refl t⟩
theorem up_minK (l : List Nat) (s : Nat) : up (minK l) s ↔ up l s := by
  constructor
  · rintro ⟨t, ht, h⟩; exact ⟨t, mem_minK ht, h⟩
  · rintro ⟨t, ht, h⟩
    obtain ⟨y, hy, h2⟩ := exists_min l _ t (Nat.le_refl _) ht
    exact ⟨y, hy, subN_tr h2 h⟩
theorem minK_mem_of_up {l r : List Nat} (h : ∀ s, up l s ↔ up r s) {x : Nat} (hx : x ∈ minK l) : x ∈ minK r := by
  obtain ⟨h1, h2⟩ := (mem_minK_iff l x).1 hx
  obtain ⟨y, hy, hyx⟩ := (h x).1 ⟨x, h1, subN_refl x⟩
  obtain ⟨z, hz, hzy⟩ := (h y).2 ⟨y, hy, subN_refl y⟩
  have e1 := h2 z hz (subN_tr hzy hyx)
  subst e1
  have e2 : y = z := subN_anti hyx hzy
  subst e2
  refine (mem_minK_iff r y).2 ⟨hy, fun w hw hwy => ?_⟩
  obtain ⟨v, hv, hvw⟩ := (h w).2 ⟨w, hw, subN_refl w⟩
  have e3 := h2 v hv (subN_tr hvw hwy)
  subst e3
  exact subN_anti hwy hvw
/-- The minimal sets are those of the closure. -/
theorem minK_of_up {l r : List Nat} (h : ∀ s, up l s ↔ up r s) : minK l = minK r :=
  pair_unique ltK ltK_irr ltK_tr _ _ (pair_minK l) (pair_minK r) fun _ => ⟨fun hx => minK_mem_of_up h hx, fun hx => minK_mem_of_up (fun s => (h s).symm) hx⟩
/-- A family as it is stored: sorted, no set in another one. -/
def Can (l : List Nat) : Prop := minK l = l
theorem can_minK (l : List Nat) : Can (minK l) := minK_of_up fun s => up_minK l s
theorem can_one (x : Nat) : Can [x] := by
  have h1 : ∀ y, y ∈ minK [x] ↔ y ∈ [x] := fun y => by rw [mem_minK_iff]; simp; intro h _; exact h.symm
  exact pair_unique ltK ltK_irr ltK_tr _ _ (pair_minK [x]) (by simp) h1
end Go.Proofs.YthiemjodcklejaaGreatDoor

/-
  Plain: all families are stored sorted, no set in another one, and not too long.
-/
namespace Go.Proofs.YthiemjodcklejaaGreatDoor

def Good (l : List Nat) : Prop := Can l ∧ l.length ≤ 1024
theorem good_one (x : Nat) : Good [x] := ⟨can_one x, by simp⟩
end Go.Proofs.YthiemjodcklejaaGreatDoor

/-
  Plain: the values of a formula's arguments; what the families say of them.
-/
namespace Go.Proofs.YthiemjodcklejaaGreatDoor

/-- How many of the arguments are true. -/
def trueN (vals : List Bool) : List Int → Nat
  | [] => 0
  | a :: l => (if vals.getD a.toNat false then 1 else 0) + trueN vals l
def nodeV (kind k : Int) (t m : Nat) : Bool :=
  if kind = 0 then k == 1 else if kind = 1 then t == 0 else if kind = 2 then t == m else if kind = 3 then decide (0 < t) else if kind = 4 then decide (k ≤ (t : Int)) else t % 2 == 1
/-- The values of the events, then of the first k nodes. -/
def valsUp (V s : Nat) (nodes : List Nd) : Nat → List Bool
  | 0 => (List.range V).map fun i => s.testBit i
  | k + 1 => valsUp V s nodes k ++ [nodeV (nodes.getD k noNd).kind (nodes.getD k noNd).k (trueN (valsUp V s nodes k) (nodes.getD k noNd).args) (nodes.getD k noNd).args.length]
def valsK (V s : Nat) (nodes : List Nd) : List Bool := valsUp V s nodes nodes.length
theorem len_valsUp (V s : Nat) (nodes : List Nd) (k : Nat) : (valsUp V s nodes k).length = V + k := by
  induction k with
  | zero => simp [valsUp]
  | succ k ih => unfold valsUp; simp [ih]; omega
theorem valsUp_get (V s : Nat) (nodes : List Nd) (j : Nat) : ∀ k i, i < V + j → j ≤ k → (valsUp V s nodes k).getD i false = (valsUp V s nodes j).getD i false := by
  intro k
  induction k with
  | zero => intro i hi hj; have : j = 0 := by omega
            subst this; rfl
  | succ k ih =>
    intro i hi hj
    by_cases e : j = k + 1
    · subst e; rfl
    · rw [← ih i hi (by omega)]
      show (valsUp V s nodes k ++ _).getD i false = _
      rw [List.getD_eq_getElem?_getD, List.getElem?_append_left (by rw [len_valsUp]; omega), ← List.getD_eq_getElem?_getD]
theorem valsUp_event (V s : Nat) (nodes : List Nd) (k i : Nat) (hi : i < V) : (valsUp V s nodes k).getD i false = s.testBit i := by
  rw [valsUp_get V s nodes 0 k i (by omega) (by omega)]
  simp [valsUp, List.getD_eq_getElem?_getD, hi]
theorem trueN_append (vals : List Bool) (a b : List Int) : trueN vals (a ++ b) = trueN vals a + trueN vals b := by
  induction a with
  | nil => simp [trueN]
  | cons x a ih => simp [trueN, ih]; omega
theorem trueN_le (vals : List Bool) (a : List Int) : trueN vals a ≤ a.length := by
  induction a with
  | nil => simp [trueN]
  | cons x a ih => simp only [trueN, List.length_cons]; split <;> omega
theorem trueN_congr (v1 v2 : List Bool) (a : List Int) (h : ∀ x ∈ a, v1.getD x.toNat false = v2.getD x.toNat false) : trueN v1 a = trueN v2 a := by
  induction a with
  | nil => rfl
  | cons x a ih => simp only [trueN]; rw [h x (List.mem_cons_self ..), ih fun y hy => h y (List.mem_cons_of_mem _ hy)]
/-- How many families have a set inside s. -/
noncomputable def upN (s : Nat) : List (List Nat) → Nat
  | [] => 0
  | f :: l => (open Classical in if up f s then 1 else 0) + upN s l
/-- What is below a marked node is marked. -/
theorem markAll_keep (args : List Int) : ∀ (m : List Bool) (i : Nat), m.getD i false = true → (markAll m args).getD i false = true := by
  induction args with
  | nil => intro m i h; exact h
  | cons a l ih =>
    intro m i h
    refine ih (m.set a.toNat true) i ?_
    rw [List.getD_eq_getElem?_getD] at h ⊢
    by_cases e : a.toNat = i
    · subst e
      by_cases hl : a.toNat < m.length
      · rw [List.getElem?_set_self hl]; rfl
      · rw [List.getElem?_eq_none (by omega)] at h; cases h
    · rw [List.getElem?_set_ne e]; exact h
theorem markAll_mem (args : List Int) : ∀ (m : List Bool) (a : Int), a ∈ args → a.toNat < m.length → (markAll m args).getD a.toNat false = true := by
  induction args with
  | nil => intro m a h; cases h
  | cons x l ih =>
    intro m a ha hl
    rcases List.mem_cons.1 ha with e | e
    · subst e
      refine markAll_keep l (m.set a.toNat true) a.toNat ?_
      rw [List.getD_eq_getElem?_getD, List.getElem?_set_self hl]; rfl
    · exact ih (m.set x.toNat true) a e (by simpa using hl)
theorem markAll_other (args : List Int) : ∀ (m : List Bool) (i : Nat), (∀ a ∈ args, a.toNat ≠ i) → (markAll m args).getD i false = m.getD i false := by
  induction args with
  | nil => intro m i _; rfl
  | cons a l ih =>
    intro m i h
    rw [show markAll m (a :: l) = markAll (m.set a.toNat true) l from rfl, ih (m.set a.toNat true) i fun x hx => h x (List.mem_cons_of_mem _ hx)]
    rw [List.getD_eq_getElem?_getD, List.getElem?_set_ne (h a (List.mem_cons_self ..)), ← List.getD_eq_getElem?_getD]
theorem belowGo_keep (V : Nat) (nodes : List Nd) : ∀ k m i, m.getD i false = true → (belowGo V nodes k m).getD i false = true := by
  intro k
  induction k with
  | zero => intro m i h; exact h
  | succ k ih =>
    intro m i h
    unfold belowGo
    refine ih _ i ?_
    split
    · exact markAll_keep _ _ _ h
    · exact h
theorem belowGo_same (V : Nat) (nodes : List Nd) (hargs : ∀ i (h : i < nodes.length), ∀ a ∈ nodes[i].args, 0 ≤ a ∧ a < (V : Int) + i) : ∀ k m i, k ≤ nodes.length → k ≤ i → (belowGo V nodes k m).getD (V + i) false = m.getD (V + i) false := by
  intro k
  induction k with
  | zero => intro m i _ _; rfl
  | succ k ih =>
    intro m i hk hi
    unfold belowGo
    rw [ih _ i (by omega) (by omega)]
    split
    · refine markAll_other _ _ _ fun a ha e => ?_
      rw [show nodes.getD k noNd = nodes[k] by simp [List.getD_eq_getElem?_getD, show k < nodes.length by omega]] at ha
      have := hargs k (by omega) a ha
      omega
    · rfl
theorem belowGo_closed (V : Nat) (nodes : List Nd) (hargs : ∀ i (h : i < nodes.length), ∀ a ∈ nodes[i].args, 0 ≤ a ∧ a < (V : Int) + i) : ∀ k m, k ≤ nodes.length → m.length = V + nodes.length →
    ∀ i (_ : i < k) (h : i < nodes.length), (belowGo V nodes k m).getD (V + i) false = true → ∀ a ∈ nodes[i].args, (belowGo V nodes k m).getD a.toNat false = true := by
  intro k
  induction k with
  | zero => intro m _ _ i hi; omega
  | succ k ih =>
    intro m hk hm i hi h hmark a ha
    have hnd : nodes.getD k noNd = nodes[k] := by simp [List.getD_eq_getElem?_getD, show k < nodes.length by omega]
    unfold belowGo at hmark ⊢
    by_cases e : i = k
    · subst e
      have h2 := belowGo_same V nodes hargs i (if m.getD (V + i) false then markAll m (nodes.getD i noNd).args else m) i (by omega) (Nat.le_refl _)
      rw [h2] at hmark
      have hmi : m.getD (V + i) false = true := by
        by_cases hb : m.getD (V + i) false = true
        · exact hb
        · rw [if_neg hb] at hmark; exact hmark
      refine belowGo_keep V nodes i _ _ ?_
      rw [if_pos hmi, hnd]
      have := hargs i h a ha
      exact markAll_mem _ m a ha (by omega)
    · exact ih (if m.getD (V + k) false then markAll m (nodes.getD k noNd).args else m) (by omega) (by split; rw [len_markAll, hm]; exact hm) i (by omega) h hmark a ha
theorem below_closed (V T : Nat) (f : Fm) (hok : Ok f V T) : ∀ i (hi : i < f.nodes.length), (belowK V T f.nodes).getD (V + i) false = true → ∀ a ∈ f.nodes[i].args, (belowK V T f.nodes).getD a.toNat false = true := by
  intro i hi h a ha
  exact belowGo_closed V f.nodes hok.args f.nodes.length _ (Nat.le_refl _) (by simp) i hi hi h a ha
end Go.Proofs.YthiemjodcklejaaGreatDoor

/-
  Plain: a formula in which an event is replaced by a constant, which is node 0; Restrict.
-/
namespace Go.Proofs.YthiemjodcklejaaGreatDoor

def mvA (V e : Nat) (a : Int) : Int := if a = e then V else if a < V then a else a + 1
def mvN (V e : Nat) (x : Nd) : Nd := ⟨x.kind, x.k, x.args.map (mvA V e)⟩
def mvF (V e : Nat) (k : Int) (f : Fm) (T : Nat) : Fm := ⟨V, ⟨0, k, []⟩ :: f.nodes.map (mvN V e), mvA V e T⟩
/-- s with the bit e put to b. -/
def putBit (s e : Nat) (b : Bool) : Nat := if b then s ||| 2 ^ e else sdiff s (2 ^ e)
theorem getD_snoc (l : List Bool) (x : Bool) (i : Nat) (h : i = l.length) : (l ++ [x]).getD i false = x := by subst h; simp [List.getD_eq_getElem?_getD]
/-- Restrict. -/
def restrictK (l : List Nat) (fl wk : Nat) : List Nat := minK ((l.filter fun s => s &&& wk == 0).map fun s => sdiff s fl)
theorem sdiff_bit (a b i : Nat) : (sdiff a b).testBit i = (a.testBit i && !b.testBit i) := by
  unfold sdiff
  rw [Nat.testBit_xor, Nat.testBit_and]
  cases a.testBit i <;> cases b.testBit i <;> rfl
end Go.Proofs.YthiemjodcklejaaGreatDoor

/-
  Plain: rows of conditions as masks (an event is its bit, node i is bit 24 + i); the procedure of the top-down search.
-/
namespace Go.Proofs.YthiemjodcklejaaGreatDoor

/-- The condition of an argument. -/
def cond (V : Nat) (a : Int) : Nat := if a < V then 2 ^ a.toNat else 2 ^ (24 + (a - V).toNat)
def withC (V r : Nat) (a : Int) : Nat := r ||| cond V a
/-- A row for each choice of k of the arguments. -/
def chooseK (V : Nat) : List Int → Nat → Nat → List Nat
  | [], k, r => if k = 0 then [r] else []
  | a :: l, k, r => if k = 0 then [r] else chooseK V l (k - 1) (withC V r a) ++ chooseK V l k r
/-- What node i is replaced by in a row that has it. -/
def expandK (V : Nat) (x : Nd) (i r : Nat) : List Nat :=
  if x.kind = 0 then (if x.k = 1 then [sdiff r (2 ^ (24 + i))] else [])
  else if x.kind = 2 then [x.args.foldl (withC V) (sdiff r (2 ^ (24 + i)))]
  else if x.kind = 3 then x.args.map (withC V (sdiff r (2 ^ (24 + i))))
  else chooseK V x.args x.k.toNat (sdiff r (2 ^ (24 + i)))
def expR (V : Nat) (x : Nd) (i r : Nat) : List Nat := if r.testBit (24 + i) then expandK V x i r else [r]
def expK (V : Nat) (x : Nd) (i : Nat) (R : List Nat) : List Nat := R.flatMap (expR V x i)
/-- From the nodes below i on: the last rows, and how many there were behind each expansion. -/
def runK (V : Nat) (nodes : List Nd) : Nat → List Nat → Option (List Nat × List Nat)
  | 0, R => some (R, [])
  | i + 1, R =>
    if R.any (fun r => r.testBit (24 + i)) = true then
      if (expK V (nodes.getD i noNd) i R).length ≤ 4096 then
        if (minK (expK V (nodes.getD i noNd) i R)).length ≤ 1024 then (runK V nodes i (minK (expK V (nodes.getD i noNd) i R))).map fun p => (p.1, (minK (expK V (nodes.getD i noNd) i R)).length :: p.2)
        else none
      else none
    else runK V nodes i R
def topK (V T : Nat) (nodes : List Nd) : Option (List Nat × List Nat) := runK V nodes nodes.length [cond V T]

/-- A row's conditions hold. -/
def sat (P : Nat → Prop) (r : Nat) : Prop := ∀ i, r.testBit i = true → P i
def upP (R : List Nat) (P : Nat → Prop) : Prop := ∃ r ∈ R, sat P r
theorem sat_or (P : Nat → Prop) (a b : Nat) : sat P (a ||| b) ↔ sat P a ∧ sat P b := by
  unfold sat
  constructor
  · intro h; exact ⟨fun i hi => h i (by simp [hi]), fun i hi => h i (by simp [hi])⟩
  · rintro ⟨h1, h2⟩ i hi
    simp at hi
    exact hi.elim (h1 i) (h2 i)
theorem sat_pow (P : Nat → Prop) (m : Nat) : sat P (2 ^ m) ↔ P m := by
  unfold sat
  constructor
  · intro h; exact h m (by simp)
  · intro h i hi
    simp [Nat.testBit_two_pow] at hi
    subst hi; exact h
theorem sat_sub {P : Nat → Prop} {a b : Nat} (h : subN a b = true) (hb : sat P b) : sat P a := fun i hi => hb i (subN_iff.1 h i hi)
theorem sat_sdiff (P : Nat → Prop) (r m : Nat) (hr : r.testBit m = true) : sat P r ↔ sat P (sdiff r (2 ^ m)) ∧ P m := by
  unfold sat
  constructor
  · intro h
    refine ⟨fun i hi => ?_, h m hr⟩
    rw [sdiff_bit] at hi
    simp at hi
    exact h i hi.1
  · rintro ⟨h1, h2⟩ i hi
    by_cases e : i = m
    · subst e; exact h2
    · refine h1 i ?_
      rw [sdiff_bit, hi, Nat.testBit_two_pow]
      simp [Ne.symm e]
theorem upP_append (P : Nat → Prop) (a b : List Nat) : upP (a ++ b) P ↔ upP a P ∨ upP b P := by
  unfold upP
  constructor
  · rintro ⟨t, h, h2⟩
    exact (List.mem_append.1 h).elim (fun h => .inl ⟨t, h, h2⟩) fun h => .inr ⟨t, h, h2⟩
  · rintro (⟨t, h, h2⟩ | ⟨t, h, h2⟩)
    · exact ⟨t, List.mem_append.2 (.inl h), h2⟩
    · exact ⟨t, List.mem_append.2 (.inr h), h2⟩
theorem upP_minK (P : Nat → Prop) (l : List Nat) : upP (minK l) P ↔ upP l P := by
  constructor
  · rintro ⟨t, ht, h⟩; exact ⟨t, mem_minK ht, h⟩
  · rintro ⟨t, ht, h⟩
    obtain ⟨y, hy, h2⟩ := exists_min l _ t (Nat.le_refl _) ht
    exact ⟨y, hy, sat_sub h2 h⟩
theorem upP_one (P : Nat → Prop) (r : Nat) : upP [r] P ↔ sat P r := by
  unfold upP; simp
/-- The arguments' count, by their conditions. -/
def Says (V : Nat) (P : Nat → Prop) (vals : List Bool) (args : List Int) : Prop := ∀ a ∈ args, (sat P (cond V a) ↔ vals.getD a.toNat false = true)
theorem upP_choose (V : Nat) (P : Nat → Prop) (vals : List Bool) : ∀ (args : List Int) (k r : Nat), Says V P vals args → (upP (chooseK V args k r) P ↔ sat P r ∧ k ≤ trueN vals args) := by
  intro args
  induction args with
  | nil =>
    intro k r _
    unfold chooseK trueN
    by_cases h : k = 0
    · rw [if_pos h, upP_one]; simp [h]
    · rw [if_neg h]
      constructor
      · rintro ⟨t, ht, _⟩; cases ht
      · rintro ⟨_, h2⟩; omega
  | cons a l ih =>
    intro k r hs
    have hs' : Says V P vals l := fun x hx => hs x (List.mem_cons_of_mem _ hx)
    have ha := hs a (List.mem_cons_self ..)
    unfold chooseK trueN
    by_cases h : k = 0
    · rw [if_pos h, upP_one]; simp [h]
    · rw [if_neg h, upP_append, ih (k - 1) (withC V r a) hs', ih k r hs']
      unfold withC
      rw [sat_or, ha]
      by_cases hv : vals.getD a.toNat false = true
      · rw [if_pos hv]
        constructor
        · rintro (⟨⟨h1, _⟩, h2⟩ | ⟨h1, h2⟩)
          · exact ⟨h1, by omega⟩
          · exact ⟨h1, by omega⟩
        · rintro ⟨h1, h2⟩; exact .inl ⟨⟨h1, hv⟩, by omega⟩
      · rw [if_neg hv]
        constructor
        · rintro (⟨⟨_, h1⟩, _⟩ | ⟨h1, h2⟩)
          · exact absurd h1 hv
          · exact ⟨h1, by omega⟩
        · rintro ⟨h1, h2⟩; exact .inr ⟨h1, by omega⟩
theorem trueN_all (vals : List Bool) (args : List Int) : trueN vals args = args.length ↔ ∀ a ∈ args, vals.getD a.toNat false = true := by
  induction args with
  | nil => simp [trueN]
  | cons a l ih =>
    have := trueN_le vals l
    simp only [trueN, List.length_cons, List.mem_cons, forall_eq_or_imp]
    by_cases h : vals.getD a.toNat false = true
    · rw [if_pos h, ← ih]
      constructor
      · intro e; exact ⟨h, by omega⟩
      · intro e; omega
    · rw [if_neg h]
      constructor
      · intro e; omega
      · intro e; exact absurd e.1 h
theorem trueN_pos (vals : List Bool) (args : List Int) : 0 < trueN vals args ↔ ∃ a ∈ args, vals.getD a.toNat false = true := by
  induction args with
  | nil => simp [trueN]
  | cons a l ih =>
    simp only [trueN, List.mem_cons, exists_eq_or_imp, ← ih]
    by_cases h : vals.getD a.toNat false = true
    · rw [if_pos h]; exact ⟨fun _ => .inl h, fun _ => by omega⟩
    · rw [if_neg h]; exact ⟨fun e => .inr (by omega), fun e => e.elim (fun e => absurd e h) fun e => by omega⟩
theorem sat_fold (V : Nat) (P : Nat → Prop) (args : List Int) : ∀ r, sat P (args.foldl (withC V) r) ↔ sat P r ∧ ∀ a ∈ args, sat P (cond V a) := by
  induction args with
  | nil => intro r; simp
  | cons a l ih =>
    intro r
    show sat P (l.foldl (withC V) (withC V r a)) ↔ _
    rw [ih, withC, sat_or]
    simp [and_assoc]
theorem upP_expand (V : Nat) (P : Nat → Prop) (vals : List Bool) (x : Nd) (i r : Nat) (hs : Says V P vals x.args) (hk : x.kind = 0 ∨ x.kind = 2 ∨ x.kind = 3 ∨ x.kind = 4) (h4 : x.kind = 4 → 0 ≤ x.k) :
    upP (expandK V x i r) P ↔ sat P (sdiff r (2 ^ (24 + i))) ∧ nodeV x.kind x.k (trueN vals x.args) x.args.length = true := by
  unfold expandK nodeV
  rcases hk with hk | hk | hk | hk
  · simp only [hk, if_true]
    by_cases e : x.k = 1
    · rw [if_pos e, upP_one]; simp [e]
    · rw [if_neg e]
      simp only [beq_iff_eq, e, and_false, iff_false]
      rintro ⟨t, ht, _⟩; cases ht
  · simp only [hk, show ¬ (2 : Int) = 0 by decide, show ¬ (2 : Int) = 1 by decide, if_true, if_false]
    rw [upP_one, sat_fold, beq_iff_eq, trueN_all]
    exact and_congr Iff.rfl ⟨fun h a ha => (hs a ha).1 (h a ha), fun h a ha => (hs a ha).2 (h a ha)⟩
  · simp only [hk, show ¬ (3 : Int) = 0 by decide, show ¬ (3 : Int) = 1 by decide, show ¬ (3 : Int) = 2 by decide, if_true, if_false]
    rw [decide_eq_true_eq, trueN_pos]
    constructor
    · rintro ⟨t, ht, h⟩
      obtain ⟨a, ha, rfl⟩ := List.mem_map.1 ht
      have := (sat_or P _ _).1 h
      exact ⟨this.1, a, ha, (hs a ha).1 this.2⟩
    · rintro ⟨h, a, ha, h2⟩
      exact ⟨_, List.mem_map.2 ⟨a, ha, rfl⟩, (sat_or P _ _).2 ⟨h, (hs a ha).2 h2⟩⟩
  · simp only [hk, show ¬ (4 : Int) = 0 by decide, show ¬ (4 : Int) = 1 by decide, show ¬ (4 : Int) = 2 by decide, show ¬ (4 : Int) = 3 by decide, if_true, if_false]
    rw [upP_choose V P vals x.args _ _ hs, decide_eq_true_eq]
    have := h4 hk
    exact and_congr Iff.rfl (by omega)
theorem upP_expK (V : Nat) (P : Nat → Prop) (vals : List Bool) (x : Nd) (i : Nat) (R : List Nat) (h : ∀ r ∈ R, r.testBit (24 + i) = true → Says V P vals x.args ∧ (x.kind = 0 ∨ x.kind = 2 ∨ x.kind = 3 ∨ x.kind = 4) ∧ (x.kind = 4 → 0 ≤ x.k) ∧ (P (24 + i) ↔ nodeV x.kind x.k (trueN vals x.args) x.args.length = true)) :
    upP (expK V x i R) P ↔ upP R P := by
  unfold expK
  have one : ∀ r ∈ R, (upP (expR V x i r) P ↔ sat P r) := by
    intro r hr
    unfold expR
    by_cases hb : r.testBit (24 + i) = true
    · rw [if_pos hb]
      obtain ⟨h1, h2, h3, h4⟩ := h r hr hb
      rw [upP_expand V P vals x i r h1 h2 h3, ← h4, ← sat_sdiff P r _ hb]
    · rw [if_neg hb, upP_one]
  unfold upP
  constructor
  · rintro ⟨t, ht, hs⟩
    obtain ⟨r, hr, hrt⟩ := List.mem_flatMap.1 ht
    exact ⟨r, hr, (one r hr).1 ⟨t, hrt, hs⟩⟩
  · rintro ⟨r, hr, hs⟩
    obtain ⟨t, ht, h2⟩ := (one r hr).2 hs
    exact ⟨t, List.mem_flatMap.2 ⟨r, hr, ht⟩, h2⟩
end Go.Proofs.YthiemjodcklejaaGreatDoor

/-
  Plain: bounds of the rows of the top-down search; its answer says the value of Top; the order of rows does not matter.
-/
namespace Go.Proofs.YthiemjodcklejaaGreatDoor

/-- All conditions of a row have numbers below b. -/
def RowLt (b r : Nat) : Prop := ∀ j, r.testBit j = true → j < b
theorem rowLt_pow {b m : Nat} (h : m < b) : RowLt b (2 ^ m) := fun j hj => by
  simp [Nat.testBit_two_pow] at hj; omega
theorem rowLt_or {b x y : Nat} (h1 : RowLt b x) (h2 : RowLt b y) : RowLt b (x ||| y) := fun j hj => by
  simp at hj; exact hj.elim (h1 j) (h2 j)
theorem rowLt_sdiff {b r : Nat} (h : RowLt (b + 1) r) : RowLt b (sdiff r (2 ^ b)) := fun j hj => by
  rw [sdiff_bit, Nat.testBit_two_pow] at hj
  simp at hj
  have := h j hj.1
  omega
theorem rowLt_mono {b c r : Nat} (h : RowLt b r) (hc : b ≤ c) : RowLt c r := fun j hj => Nat.lt_of_lt_of_le (h j hj) hc
theorem rowLt_num {b r : Nat} (h : RowLt b r) : r < 2 ^ b := by
  apply Nat.lt_of_not_le
  intro hr
  obtain ⟨i, hi, hb⟩ := Nat.exists_ge_and_testBit_of_ge_two_pow hr
  have := h i hb
  omega
theorem rowLt_of_num {b r : Nat} (h : r < 2 ^ b) : RowLt b r := fun j hj => by
  apply Nat.lt_of_not_le
  intro hb
  rw [Nat.testBit_lt_two_pow (Nat.lt_of_lt_of_le h (Nat.pow_le_pow_right (by omega) hb))] at hj
  cases hj
theorem rowLt_cond {V m : Nat} {a : Int} (h : 0 ≤ a ∧ a < (V : Int) + m) (hV : V ≤ 24) : RowLt (24 + m) (cond V a) := by
  unfold cond
  split
  · exact rowLt_pow (by omega)
  · exact rowLt_pow (by omega)
theorem rowLt_fold {V b : Nat} (args : List Int) (h : ∀ a ∈ args, RowLt b (cond V a)) : ∀ r, RowLt b r → RowLt b (args.foldl (withC V) r) := by
  induction args with
  | nil => intro r hr; exact hr
  | cons a l ih => intro r hr; exact ih (fun x hx => h x (List.mem_cons_of_mem _ hx)) _ (rowLt_or hr (h a (List.mem_cons_self ..)))
theorem rowLt_choose {V b : Nat} (args : List Int) : (∀ a ∈ args, RowLt b (cond V a)) → ∀ k r, RowLt b r → ∀ t ∈ chooseK V args k r, RowLt b t := by
  induction args with
  | nil =>
    intro _ k r hr t ht
    unfold chooseK at ht
    split at ht
    · simp at ht; subst ht; exact hr
    · cases ht
  | cons a l ih =>
    intro h k r hr t ht
    unfold chooseK at ht
    split at ht
    · simp at ht; subst ht; exact hr
    · have h' : ∀ x ∈ l, RowLt b (cond V x) := fun x hx => h x (List.mem_cons_of_mem _ hx)
      rcases List.mem_append.1 ht with ht | ht
      · exact ih h' _ _ (rowLt_or hr (h a (List.mem_cons_self ..))) t ht
      · exact ih h' _ _ hr t ht
theorem rowLt_expand {V i r : Nat} {x : Nd} (hV : V ≤ 24) (ha : ∀ a ∈ x.args, 0 ≤ a ∧ a < (V : Int) + i) (hr : RowLt (24 + i + 1) r) : ∀ t ∈ expandK V x i r, RowLt (24 + i) t := by
  have h' : ∀ a ∈ x.args, RowLt (24 + i) (cond V a) := fun a h => rowLt_cond (ha a h) hV
  have hd := rowLt_sdiff hr
  intro t ht
  unfold expandK at ht
  split at ht
  · split at ht
    · simp at ht; subst ht; exact hd
    · cases ht
  · split at ht
    · simp at ht; subst ht; exact rowLt_fold _ h' _ hd
    · split at ht
      · obtain ⟨a, h1, rfl⟩ := List.mem_map.1 ht
        exact rowLt_or hd (h' a h1)
      · exact rowLt_choose _ h' _ _ hd t ht
theorem rowLt_less {b r : Nat} (h : RowLt (b + 1) r) (hb : r.testBit b = false) : RowLt b r := fun j hj => by
  have := h j hj
  by_cases e : j = b
  · subst e; rw [hb] at hj; cases hj
  · omega
theorem rowLt_expK {V i : Nat} {x : Nd} {R : List Nat} (hV : V ≤ 24) (ha : ∀ a ∈ x.args, 0 ≤ a ∧ a < (V : Int) + i) (hR : ∀ r ∈ R, RowLt (24 + i + 1) r) : ∀ t ∈ expK V x i R, RowLt (24 + i) t := by
  intro t ht
  obtain ⟨r, hr, ht⟩ := List.mem_flatMap.1 ht
  unfold expR at ht
  split at ht
  · exact rowLt_expand hV ha (hR r hr) t ht
  · rename_i h
    simp at ht
    subst ht
    exact rowLt_less (hR t hr) (by simpa using h)
theorem rowLt_skip {i : Nat} {R : List Nat} (hR : ∀ r ∈ R, RowLt (24 + (i + 1)) r) (h : ¬ R.any (fun r => r.testBit (24 + i)) = true) : ∀ r ∈ R, RowLt (24 + i) r := fun r hr =>
  rowLt_less (b := 24 + i) (hR r hr) (by
    cases hb : r.testBit (24 + i) with
    | false => rfl
    | true => exact absurd (List.any_eq_true.2 ⟨r, hr, hb⟩) h)
/-- The nodes of a row are marked. -/
def Marked (V : Nat) (mark : List Bool) (r : Nat) : Prop := ∀ j, r.testBit (24 + j) = true → mark.getD (V + j) false = true
theorem marked_or {V : Nat} {mark : List Bool} {x y : Nat} (h1 : Marked V mark x) (h2 : Marked V mark y) : Marked V mark (x ||| y) := fun j hj => by
  simp at hj; exact hj.elim (h1 j) (h2 j)
theorem marked_sub {V : Nat} {mark : List Bool} {x m : Nat} (h : Marked V mark x) : Marked V mark (sdiff x m) := fun j hj => by
  rw [sdiff_bit] at hj; simp at hj; exact h j hj.1
theorem marked_cond {V : Nat} {mark : List Bool} {a : Int} (h0 : 0 ≤ a) (hV : V ≤ 24) (h : mark.getD a.toNat false = true) : Marked V mark (cond V a) := by
  intro j hj
  unfold cond at hj
  split at hj
  · simp [Nat.testBit_two_pow] at hj; omega
  · simp [Nat.testBit_two_pow] at hj
    rw [show V + j = a.toNat by omega]; exact h
theorem marked_fold {V : Nat} {mark : List Bool} (args : List Int) (h : ∀ a ∈ args, Marked V mark (cond V a)) : ∀ r, Marked V mark r → Marked V mark (args.foldl (withC V) r) := by
  induction args with
  | nil => intro r hr; exact hr
  | cons a l ih => intro r hr; exact ih (fun x hx => h x (List.mem_cons_of_mem _ hx)) _ (marked_or hr (h a (List.mem_cons_self ..)))
theorem marked_choose {V : Nat} {mark : List Bool} (args : List Int) : (∀ a ∈ args, Marked V mark (cond V a)) → ∀ k r, Marked V mark r → ∀ t ∈ chooseK V args k r, Marked V mark t := by
  induction args with
  | nil =>
    intro _ k r hr t ht
    unfold chooseK at ht
    split at ht
    · simp at ht; subst ht; exact hr
    · cases ht
  | cons a l ih =>
    intro h k r hr t ht
    unfold chooseK at ht
    split at ht
    · simp at ht; subst ht; exact hr
    · have h' : ∀ x ∈ l, Marked V mark (cond V x) := fun x hx => h x (List.mem_cons_of_mem _ hx)
      rcases List.mem_append.1 ht with ht | ht
      · exact ih h' _ _ (marked_or hr (h a (List.mem_cons_self ..))) t ht
      · exact ih h' _ _ hr t ht
theorem marked_expK {V i : Nat} {mark : List Bool} {x : Nd} {R : List Nat} (hV : V ≤ 24) (hR : ∀ r ∈ R, Marked V mark r)
    (ha : mark.getD (V + i) false = true → ∀ a ∈ x.args, 0 ≤ a ∧ mark.getD a.toNat false = true) : ∀ t ∈ expK V x i R, Marked V mark t := by
  intro t ht
  obtain ⟨r, hr, ht⟩ := List.mem_flatMap.1 ht
  unfold expR at ht
  split at ht
  · rename_i hb
    have hm := ha (hR r hr i hb)
    have h' : ∀ a ∈ x.args, Marked V mark (cond V a) := fun a h => marked_cond (hm a h).1 hV (hm a h).2
    have hd : Marked V mark (sdiff r (2 ^ (24 + i))) := marked_sub (hR r hr)
    unfold expandK at ht
    split at ht
    · split at ht
      · simp at ht; subst ht; exact hd
      · cases ht
    · split at ht
      · simp at ht; subst ht; exact marked_fold _ h' _ hd
      · split at ht
        · obtain ⟨a, h1, rfl⟩ := List.mem_map.1 ht
          exact marked_or hd (h' a h1)
        · exact marked_choose _ h' _ _ hd t ht
  · simp at ht; subst ht; exact hR t hr
/-- What holds of the conditions in a state. -/
def holdsP (V s : Nat) (nodes : List Nd) (i : Nat) : Prop := if i < 24 then s.testBit i = true else (valsK V s nodes).getD (V + (i - 24)) false = true
theorem says_args {V T : Nat} {f : Fm} (hok : Ok f V T) (s : Nat) (args : List Int) (h : ∀ a ∈ args, 0 ≤ a) : Says V (holdsP V s f.nodes) (valsK V s f.nodes) args := by
  intro a ha
  have h0 := h a ha
  have hV := hok.v24
  unfold cond
  by_cases hlt : a < V
  · rw [if_pos hlt, sat_pow]
    unfold holdsP
    rw [if_pos (by omega)]
    unfold valsK
    rw [valsUp_event V s f.nodes _ a.toNat (by omega)]
  · rw [if_neg hlt, sat_pow]
    unfold holdsP
    rw [if_neg (by omega), show V + (24 + (a - (V : Int)).toNat - 24) = a.toNat by omega]
theorem holds_node {V T : Nat} {f : Fm} (hok : Ok f V T) (s i : Nat) (hi : i < f.nodes.length) : holdsP V s f.nodes (24 + i) ↔ nodeV f.nodes[i].kind f.nodes[i].k (trueN (valsK V s f.nodes) f.nodes[i].args) f.nodes[i].args.length = true := by
  have hnd : f.nodes.getD i noNd = f.nodes[i] := by simp [List.getD_eq_getElem?_getD, hi]
  unfold holdsP
  rw [if_neg (by omega), show V + (24 + i - 24) = V + i by omega]
  unfold valsK
  rw [valsUp_get V s f.nodes (i + 1) f.nodes.length (V + i) (by omega) (by omega)]
  show (valsUp V s f.nodes i ++ [_]).getD (V + i) false = true ↔ _
  rw [getD_snoc _ _ _ (len_valsUp V s f.nodes i).symm, hnd,
    trueN_congr (valsUp V s f.nodes i) (valsUp V s f.nodes f.nodes.length) f.nodes[i].args fun x hx => by
      have := hok.args i hi x hx
      exact (valsUp_get V s f.nodes i f.nodes.length x.toNat (by omega) (by omega)).symm]
theorem upP_runK {V T : Nat} {f : Fm} (hok : Ok f V T) (hs : synK V T f = true) (s : Nat) : ∀ i R p, i ≤ f.nodes.length → (∀ r ∈ R, Marked V (belowK V T f.nodes) r) → runK V f.nodes i R = some p → (upP p.1 (holdsP V s f.nodes) ↔ upP R (holdsP V s f.nodes)) := by
  intro i
  induction i with
  | zero => intro R p _ _ h; cases h; exact Iff.rfl
  | succ i ih =>
    intro R p hi hm h
    have hil : i < f.nodes.length := by omega
    have hnd : f.nodes.getD i noNd = f.nodes[i] := by simp [List.getD_eq_getElem?_getD, hil]
    unfold runK at h
    rw [hnd] at h
    split at h
    · split at h
      · split at h
        · cases h1 : runK V f.nodes i (minK (expK V f.nodes[i] i R)) with
          | none => rw [h1] at h; cases h
          | some q =>
            rw [h1] at h
            cases h
            have hm2 : ∀ r ∈ minK (expK V f.nodes[i] i R), Marked V (belowK V T f.nodes) r := fun r hr =>
              marked_expK hok.v24 hm (fun hk a ha => ⟨(hok.args i hil a ha).1, below_closed V T f hok i hil hk a ha⟩) r (mem_minK hr)
            rw [ih _ q (by omega) hm2 h1, upP_minK]
            refine upP_expK V _ (valsK V s f.nodes) f.nodes[i] i R fun r hr hb => ?_
            have hmk := hm r hr i hb
            have hkd := kind_mono hok hs i hil hmk
            refine ⟨says_args hok s _ fun a ha => (hok.args i hil a ha).1, hkd, fun h4 => ?_, holds_node hok s i hil⟩
            have := hok.arity i hil
            unfold chkK at this
            rw [if_neg (by omega), if_pos h4] at this
            split at this
            · omega
            · cases this
        · cases h
      · cases h
    · exact ih R p (by omega) hm h
theorem rowLt_runK {V T : Nat} {f : Fm} (hok : Ok f V T) : ∀ i R p, i ≤ f.nodes.length → (∀ r ∈ R, RowLt (24 + i) r) → runK V f.nodes i R = some p → ∀ r ∈ p.1, RowLt 24 r := by
  intro i
  induction i with
  | zero => intro R p _ hR h; cases h; exact hR
  | succ i ih =>
    intro R p hi hR h
    have hil : i < f.nodes.length := by omega
    have hnd : f.nodes.getD i noNd = f.nodes[i] := by simp [List.getD_eq_getElem?_getD, hil]
    unfold runK at h
    rw [hnd] at h
    split at h
    · split at h
      · split at h
        · cases h1 : runK V f.nodes i (minK (expK V f.nodes[i] i R)) with
          | none => rw [h1] at h; cases h
          | some q =>
            rw [h1] at h
            cases h
            exact ih _ q (by omega) (fun r hr => rowLt_expK hok.v24 (hok.args i hil) hR r (mem_minK hr)) h1
        · cases h
      · cases h
    · rename_i hany
      exact ih R p (by omega) (rowLt_skip hR hany) h
theorem can_runK (V : Nat) (nodes : List Nd) : ∀ i R p, Good R → runK V nodes i R = some p → Good p.1 := by
  intro i
  induction i with
  | zero => intro R p hR h; cases h; exact hR
  | succ i ih =>
    intro R p hR h
    unfold runK at h
    split at h
    · split at h
      · split at h
        · cases h1 : runK V nodes i (minK (expK V (nodes.getD i noNd) i R)) with
          | none => rw [h1] at h; cases h
          | some q =>
            rw [h1] at h
            cases h
            exact ih _ q ⟨can_minK _, by assumption⟩ h1
        · cases h
      · cases h
    · exact ih R p hR h
/-- The answer of the search: a family that says the value of Top. -/
theorem topK_says {V T : Nat} {f : Fm} (hok : Ok f V T) (hs : synK V T f = true) {p : List Nat × List Nat} (h : topK V T f.nodes = some p) :
    Good p.1 ∧ (∀ r ∈ p.1, Mk r) ∧ ∀ s, up p.1 s ↔ (valsK V s f.nodes).getD T false = true := by
  have hT := hok.tlt
  have hV := hok.v24
  have hlt : ∀ r ∈ [cond V (T : Int)], RowLt (24 + f.nodes.length) r := by
    intro r hr
    simp at hr
    subst hr
    exact rowLt_cond (by omega) hV
  have hmk : ∀ r ∈ [cond V (T : Int)], Marked V (belowK V T f.nodes) r := by
    intro r hr
    simp at hr
    subst hr
    refine marked_cond (by omega) hV ?_
    unfold belowK
    refine belowGo_keep V f.nodes _ _ _ ?_
    rw [List.getD_eq_getElem?_getD, Int.toNat_natCast, List.getElem?_set_self (by simp; omega)]; rfl
  have h24 := rowLt_runK hok _ _ p (Nat.le_refl _) hlt h
  refine ⟨can_runK V f.nodes _ _ p (good_one _) h, fun r hr => rowLt_num (h24 r hr), fun s => ?_⟩
  have hup := upP_runK hok hs s _ _ p (Nat.le_refl _) hmk h
  have e1 : up p.1 s ↔ upP p.1 (holdsP V s f.nodes) := by
    unfold up upP
    have : ∀ r ∈ p.1, (subN r s = true ↔ sat (holdsP V s f.nodes) r) := by
      intro r hr
      rw [subN_iff]
      unfold sat holdsP
      constructor
      · intro h i hi
        rw [if_pos (h24 r hr i hi)]; exact h i hi
      · intro h i hi
        have := h i hi
        rw [if_pos (h24 r hr i hi)] at this; exact this
    exact ⟨fun ⟨r, hr, h⟩ => ⟨r, hr, (this r hr).1 h⟩, fun ⟨r, hr, h⟩ => ⟨r, hr, (this r hr).2 h⟩⟩
  rw [e1, hup, upP_one]
  have := says_args hok s [(T : Int)] (by simp) (T : Int) (by simp)
  rw [this]; simp
/-- The rows that stay of a list sorted by size. -/
theorem least_fold (l : List Nat) : ∀ (out done : List Nat), (done ++ l).Pairwise (fun a b => pc a ≤ pc b) → out.Nodup → (∀ x ∈ out, x ∈ done) → (∀ x ∈ done, ∃ t ∈ out, subN t x = true) → (∀ x ∈ out, ∀ y ∈ done, subN y x = true → y = x) →
    (l.foldl keepN out).Nodup ∧ (∀ x ∈ l.foldl keepN out, x ∈ done ++ l) ∧ (∀ x ∈ done ++ l, ∃ t ∈ l.foldl keepN out, subN t x = true) ∧ ∀ x ∈ l.foldl keepN out, ∀ y ∈ done ++ l, subN y x = true → y = x := by
  induction l with
  | nil => intro out done _ h1 h2 h3 h4; simpa using ⟨h1, h2, h3, h4⟩
  | cons s l ih =>
    intro out done hp h1 h2 h3 h4
    have hle : ∀ x ∈ done, pc x ≤ pc s := fun x hx => (List.pairwise_append.1 hp).2.2 x hx s (List.mem_cons_self ..)
    have hp' : ((done ++ [s]) ++ l).Pairwise (fun a b => pc a ≤ pc b) := by simpa using hp
    have e : done ++ s :: l = (done ++ [s]) ++ l := by simp
    rw [e]
    show (l.foldl keepN (keepN out s)).Nodup ∧ _
    by_cases hk : out.any (fun t => subN t s) = true
    · rw [show (s :: l).foldl keepN out = l.foldl keepN out by show l.foldl keepN (keepN out s) = _; rw [show keepN out s = out from if_pos hk], show keepN out s = out from if_pos hk]
      obtain ⟨t, ht, hts⟩ := List.any_eq_true.1 hk
      refine ih out (done ++ [s]) hp' h1 (fun x hx => List.mem_append.2 (.inl (h2 x hx))) (fun x hx => ?_) fun x hx y hy hyx => ?_
      · rcases List.mem_append.1 hx with hx | hx
        · exact h3 x hx
        · simp at hx; subst hx; exact ⟨t, ht, hts⟩
      · rcases List.mem_append.1 hy with hy | hy
        · exact h4 x hx y hy hyx
        · simp at hy
          subst hy
          have := h4 x hx t (h2 t ht) (subN_tr hts hyx)
          subst this
          exact subN_anti hyx hts
    · rw [show (s :: l).foldl keepN out = l.foldl keepN (out ++ [s]) by show l.foldl keepN (keepN out s) = _; rw [show keepN out s = out ++ [s] from if_neg hk], show keepN out s = out ++ [s] from if_neg hk]
      have hk' : ∀ t ∈ out, ¬ subN t s = true := fun t ht h => hk (List.any_eq_true.2 ⟨t, ht, h⟩)
      refine ih (out ++ [s]) (done ++ [s]) hp' ?_ (fun x hx => ?_) (fun x hx => ?_) fun x hx y hy hyx => ?_
      · rw [List.nodup_append]
        refine ⟨h1, by simp, fun a ha b hb => ?_⟩
        simp at hb
        subst hb
        intro e2
        subst e2
        exact hk' _ ha (subN_refl _)
      · rcases List.mem_append.1 hx with hx | hx
        · exact List.mem_append.2 (.inl (h2 x hx))
        · exact List.mem_append.2 (.inr hx)
      · rcases List.mem_append.1 hx with hx | hx
        · obtain ⟨t, ht, h⟩ := h3 x hx
          exact ⟨t, List.mem_append.2 (.inl ht), h⟩
        · simp at hx; subst hx
          exact ⟨x, by simp, subN_refl x⟩
      · rcases List.mem_append.1 hx with hx' | hx
        · rcases List.mem_append.1 hy with hy | hy
          · exact h4 x hx' y hy hyx
          · simp at hy
            subst hy
            exact (subN_le hyx).2 (by have := (subN_le hyx).1; have := hle x (h2 x hx'); omega)
        · simp at hx
          subst hx
          rcases List.mem_append.1 hy with hy | hy
          · obtain ⟨t, ht, h⟩ := h3 y hy
            exact absurd (subN_tr h hyx) (hk' t ht)
          · simp at hy; exact hy
theorem ltK_nodup {l : List Nat} (h : l.Pairwise ltK) : l.Nodup := h.imp fun {a b} hab e => by subst e; exact ltK_irr a hab
theorem perm_of_mem {l r : List Nat} (h1 : l.Nodup) (h2 : r.Nodup) (h : ∀ x, x ∈ l ↔ x ∈ r) : l.Perm r := (List.perm_ext_iff_of_nodup h1 h2).2 h
/-- Least of a list that is sorted by size: in some order, the minimal ones. -/
theorem least_perm {l F : List Nat} (hp : l.Perm F) (hs : l.Pairwise fun a b => pc a ≤ pc b) : (minN l).Perm (minK F) := by
  obtain ⟨h1, h2, h3, h4⟩ := least_fold l [] [] (by simpa using hs) (by simp) (by simp) (by simp) (by simp)
  refine perm_of_mem h1 (ltK_nodup (pair_minK F)) fun x => ?_
  rw [mem_minK_iff]
  simp only [List.nil_append] at h2 h3 h4
  show x ∈ l.foldl keepN [] ↔ _
  constructor
  · intro hx
    exact ⟨hp.mem_iff.1 (h2 x hx), fun y hy hyx => h4 x hx y (hp.mem_iff.2 hy) hyx⟩
  · rintro ⟨hx, hmin⟩
    obtain ⟨t, ht, htx⟩ := h3 x (hp.mem_iff.2 hx)
    have := hmin t (hp.mem_iff.1 (h2 t ht)) htx
    subst this; exact ht
theorem expK_perm {V i : Nat} {x : Nd} {L R : List Nat} (h : L.Perm R) : (expK V x i L).Perm (expK V x i R) := h.flatMap_right _
theorem minK_perm {L R : List Nat} (h : L.Perm R) : minK L = minK R := minK_congr _ _ fun _ => h.mem_iff
/-- Nodes that no row has are passed by. -/
theorem runK_skip (V : Nat) (nodes : List Nd) (i : Nat) (R : List Nat) : ∀ m, i ≤ m → (∀ j, i ≤ j → j < m → R.any (fun r => r.testBit (24 + j)) = false) → runK V nodes m R = runK V nodes i R := by
  intro m
  induction m with
  | zero => intro h _; have : i = 0 := by omega
            subst this; rfl
  | succ m ih =>
    intro h hj
    by_cases e : i = m + 1
    · subst e; rfl
    · rw [← ih (by omega) fun j h1 h2 => hj j h1 (by omega)]
      conv => lhs; unfold runK
      rw [if_neg (by rw [hj m (by omega) (by omega)]; simp)]
end Go.Proofs.YthiemjodcklejaaGreatDoor

/-
  Walks: the rows of topdown: has, with, without.
-/
namespace Go.Proofs.YthiemjodcklejaaGreatDoor
open Go.RowKit

theorem or_u64 (a b : Nat) (ha : a < 18446744073709551616) (hb : b < 18446744073709551616) : bits .or .u64 (a : Int) (b : Int) = ((a ||| b : Nat) : Int) := by
  have h : (BitVec.ofInt 64 (a : Int) ||| BitVec.ofInt 64 (b : Int)).toNat = a ||| b := by rw [BitVec.toNat_or, ofNat_toNat a ha, ofNat_toNat b hb]
  show IntKind.u64.wrap (((BitVec.ofInt 64 (a : Int) ||| BitVec.ofInt 64 (b : Int)).toNat : Nat) : Int) = _
  rw [h]; have := Nat.or_lt_two_pow (n := 64) (x := a) (y := b) (by omega) (by omega); exact wrap_u64 _ (by omega)
theorem andNot_u64 (a b : Nat) (ha : a < 18446744073709551616) (hb : b < 18446744073709551616) : bits .andNot .u64 (a : Int) (b : Int) = ((sdiff a b : Nat) : Int) := by
  have h : (BitVec.ofInt 64 (a : Int) &&& ~~~ BitVec.ofInt 64 (b : Int)).toNat = sdiff a b := by
    have e : BitVec.ofInt 64 (a : Int) &&& ~~~ BitVec.ofInt 64 (b : Int) = BitVec.ofInt 64 (a : Int) ^^^ (BitVec.ofInt 64 (a : Int) &&& BitVec.ofInt 64 (b : Int)) := by
      ext i hi
      simp only [BitVec.getElem_and, BitVec.getElem_not, BitVec.getElem_xor]
      cases (BitVec.ofInt 64 (a : Int))[i] <;> cases (BitVec.ofInt 64 (b : Int))[i] <;> rfl
    rw [e, BitVec.toNat_xor, BitVec.toNat_and, ofNat_toNat a ha, ofNat_toNat b hb]; rfl
  show IntKind.u64.wrap (((BitVec.ofInt 64 (a : Int) &&& ~~~ BitVec.ofInt 64 (b : Int)).toNat : Nat) : Int) = _
  rw [h]
  have h2 : sdiff a b < 2 ^ 64 := Nat.xor_lt_two_pow (by omega) (Nat.lt_of_le_of_lt Nat.and_le_left (by omega))
  exact wrap_u64 _ (by omega)
theorem pow_u64 (i : Nat) (h : i < 64) : IntKind.u64.wrap ((2 : Int) ^ i) = ((2 ^ i : Nat) : Int) := by
  have h1 : 2 ^ i < 18446744073709551616 := Nat.lt_of_lt_of_le (Nat.pow_lt_pow_right (by omega) h : 2 ^ i < 2 ^ 64) (by decide)
  have := wrap_u64 (2 ^ i) h1
  rw [← this]; simp
theorem pow_lt64 {i : Nat} (h : i < 64) : 2 ^ i < 18446744073709551616 := Nat.lt_of_lt_of_le (Nat.pow_lt_pow_right (by omega) h : 2 ^ i < 2 ^ 64) (by decide)
theorem pow_lt24 {i : Nat} (h : i < 24) : 2 ^ i < 16777216 := Nat.lt_of_lt_of_le (Nat.pow_lt_pow_right (by omega) h : 2 ^ i < 2 ^ 24) (by decide)
theorem bit_u64 (l i : Nat) (hl : l < 18446744073709551616) : (bits .and .u64 ((l : Int) / 2 ^ i) 1 == 1) = l.testBit i := by
  have h1 : (l : Int) / 2 ^ i = ((l / 2 ^ i : Nat) : Int) := by simp
  have h2 : l / 2 ^ i < 18446744073709551616 := Nat.lt_of_le_of_lt (Nat.div_le_self _ _) hl
  rw [h1, show (1 : Int) = ((1 : Nat) : Int) from rfl, and_u64 _ _ h2 (by decide), Nat.and_one_is_mod, Nat.testBit_eq_decide_div_mod_eq, Bool.eq_iff_iff]
  simp; omega
theorem has_lo (e l h i : Nat) (hl : l < 18446744073709551616) (hi : i < 64) (w : World) :
    Calls Tryz.prog 144 #[.agg #[.int .i64 e, .int .u64 l, .int .u64 h], .int .i64 i] w fun e' w' => e' = .returned (.bool (l.testBit i)) ∧ Kept w w' := by
  have q0 : (i : Int) / 64 = 0 := by omega
  have q1 : (i : Int) % 64 = i := by omega
  have q2 : Int.tdiv (i : Int) 64 = 0 := by rw [Int.tdiv_eq_ediv_of_nonneg (by omega)]; exact q0
  have q3 : Int.tmod (i : Int) 64 = i := by rw [Int.tmod_eq_emod_of_nonneg (by omega)]; exact q1
  have HB := Lib.hid (bit_u64 l i hl)
  go_enter Tryz.func144, Tryz.ntmps144
  go_wp2
  go_ret
  exact ⟨by rw [← HB.out]; rfl, (Kept.refl _).alloc _⟩
theorem has_hi (e l h j : Nat) (hl : h < 18446744073709551616) (hj : j < 64) (w : World) :
    Calls Tryz.prog 144 #[.agg #[.int .i64 e, .int .u64 l, .int .u64 h], .int .i64 (64 + j : Nat)] w fun e' w' => e' = .returned (.bool (h.testBit j)) ∧ Kept w w' := by
  obtain ⟨i, hi⟩ : ∃ i, i = 64 + j := ⟨_, rfl⟩
  rw [← hi]
  have q0 : (i : Int) / 64 = 1 := by omega
  have q1 : (i : Int) % 64 = j := by omega
  have q2 : Int.tdiv (i : Int) 64 = 1 := by rw [Int.tdiv_eq_ediv_of_nonneg (by omega)]; exact q0
  have q3 : Int.tmod (i : Int) 64 = j := by rw [Int.tmod_eq_emod_of_nonneg (by omega)]; exact q1
  have HB := Lib.hid (bit_u64 h j hl)
  clear hi
  go_enter Tryz.func144, Tryz.ntmps144
  go_wp2
  go_ret
  exact ⟨by rw [← HB.out]; rfl, (Kept.refl _).alloc _⟩
theorem pow_i64 (V : Nat) (h : V ≤ 24) : wrap64 ((2 : Int) ^ V) = ((2 ^ V : Nat) : Int) := by
  have h1 : (2 : Nat) ^ V ≤ 2 ^ 24 := Nat.pow_le_pow_right (by omega) h
  rw [show (2 : Int) ^ V = ((2 ^ V : Nat) : Int) by simp]
  generalize (2 : Nat) ^ V = z at h1 ⊢
  unfold wrap64; omega
theorem with_ev (e l h a : Nat) (V : Nat) (v : Value) (T : Int) (hs : ∃ a n c, v = .slice a n c) (he : e < 16777216) (hV : V ≤ 24) (ha : a < V) (w : World) :
    Calls Tryz.prog 142 #[.agg #[.int .i64 e, .int .u64 l, .int .u64 h], .agg #[.int .i64 V, v, .int .i64 T], .int .i64 a] w fun e' w' => e' = .returned (.agg #[.int .i64 (e ||| 2 ^ a : Nat), .int .u64 l, .int .u64 h]) ∧ Kept w w' := by
  obtain ⟨sa, n, c, rfl⟩ := hs
  have h1 : (a : Int) < (V : Int) := by omega
  have h2 : ¬ (a : Int) < 0 := by omega
  have p1 := pow_i64 a (by omega)
  have hp := pow_lt24 (show a < 24 by omega)
  obtain ⟨z, hz⟩ : ∃ z, z = 2 ^ a := ⟨_, rfl⟩
  rw [← hz] at p1 hp ⊢
  have p2 := or_i64 e z (by omega) (by omega)
  clear hz
  obtain ⟨y, hy⟩ : ∃ y, y = e ||| z := ⟨_, rfl⟩
  rw [← hy] at p2 ⊢
  clear hy
  go_enter Tryz.func142, Tryz.ntmps142
  go_wp2
  go_region
  all_goals go_wp2
  all_goals exact bodyPost_ret (v := .agg #[.int .i64 y, .int .u64 l, .int .u64 h]) (by simp [results, Tryz.results142, go_sem]) rfl ⟨rfl, by first | exact ((((Kept.refl _).alloc _).alloc _).alloc _) | exact ((((Kept.refl _).alloc _).alloc _).alloc _).drew⟩
theorem with_lo (e l h j : Nat) (V : Nat) (v : Value) (T : Int) (hs : ∃ a n c, v = .slice a n c) (hl : l < 18446744073709551616) (hV : V ≤ 24) (hj : j < 64) (w : World) (y : Nat) (hy : y = l ||| 2 ^ j) :
    Calls Tryz.prog 142 #[.agg #[.int .i64 e, .int .u64 l, .int .u64 h], .agg #[.int .i64 V, v, .int .i64 T], .int .i64 (V + (j) : Nat)] w fun e' w' => e' = .returned (.agg #[.int .i64 e, .int .u64 y, .int .u64 h]) ∧ Kept w w' := by
  obtain ⟨sa, n, c, rfl⟩ := hs
  obtain ⟨i, hi⟩ : ∃ i, i = j := ⟨_, rfl⟩
  obtain ⟨a, ha⟩ : ∃ a, a = V + i := ⟨_, rfl⟩
  rw [← hi, ← ha]
  have h1 : ¬ (a : Int) < (V : Int) := by omega
  have h3 : IntKind.i64.wrap ((a : Int) - (V : Int)) = (i : Int) := by rw [IntKind.wrap_i64]; omega
  have h4 : (a : Int) - (V : Int) = (i : Int) := by omega
  have q0 : (i : Int) / 64 = 0 := by omega
  have q1 : (i : Int) % 64 = j := by omega
  have q2 : Int.tdiv (i : Int) 64 = 0 := by rw [Int.tdiv_eq_ediv_of_nonneg (by omega)]; exact q0
  have q3 : Int.tmod (i : Int) 64 = j := by rw [Int.tmod_eq_emod_of_nonneg (by omega)]; exact q1
  have q4 : ¬ (j : Int) < 0 := by omega
  have p1 := pow_u64 j hj
  have hp := pow_lt64 hj
  obtain ⟨z, hz⟩ : ∃ z, z = 2 ^ j := ⟨_, rfl⟩
  rw [← hz] at p1 hp hy
  have p2 := or_u64 l z hl hp
  rw [← hy] at p2
  clear hz hy hi ha
  go_enter Tryz.func142, Tryz.ntmps142
  go_wp2
  go_region
  all_goals go_wp2
  all_goals exact bodyPost_ret (v := .agg #[.int .i64 e, .int .u64 y, .int .u64 h]) (by simp [results, Tryz.results142, go_sem]) rfl ⟨rfl, by first | exact ((((Kept.refl _).alloc _).alloc _).alloc _) | exact ((((Kept.refl _).alloc _).alloc _).alloc _).drew⟩
theorem without_lo (e l h j : Nat) (hl : l < 18446744073709551616) (hj : j < 64) (w : World) (y : Nat) (hy : y = sdiff l (2 ^ j)) :
    Calls Tryz.prog 201 #[.agg #[.int .i64 e, .int .u64 l, .int .u64 h], .int .i64 (j : Nat)] w fun e' w' => e' = .returned (.agg #[.int .i64 e, .int .u64 y, .int .u64 h]) ∧ Kept w w' := by
  obtain ⟨i, hi⟩ : ∃ i, i = j := ⟨_, rfl⟩
  rw [← hi]
  have q0 : (i : Int) / 64 = 0 := by omega
  have q1 : (i : Int) % 64 = j := by omega
  have q2 : Int.tdiv (i : Int) 64 = 0 := by rw [Int.tdiv_eq_ediv_of_nonneg (by omega)]; exact q0
  have q3 : Int.tmod (i : Int) 64 = j := by rw [Int.tmod_eq_emod_of_nonneg (by omega)]; exact q1
  have q4 : ¬ (j : Int) < 0 := by omega
  have p1 := pow_u64 j hj
  have hp := pow_lt64 hj
  obtain ⟨z, hz⟩ : ∃ z, z = 2 ^ j := ⟨_, rfl⟩
  rw [← hz] at p1 hp hy
  have p2 := andNot_u64 l z hl hp
  rw [← hy] at p2
  clear hz hy hi
  go_enter Tryz.func201, Tryz.ntmps201
  go_wp2
  go_region
  all_goals go_wp2
  all_goals exact bodyPost_ret (v := .agg #[.int .i64 e, .int .u64 y, .int .u64 h]) (by simp [results, Tryz.results201, go_sem]) rfl ⟨rfl, by first | exact ((((Kept.refl _).alloc _).alloc _)) | exact ((((Kept.refl _).alloc _).alloc _)).drew⟩
theorem with_hi (e l h j : Nat) (V : Nat) (v : Value) (T : Int) (hs : ∃ a n c, v = .slice a n c) (hl : h < 18446744073709551616) (hV : V ≤ 24) (hj : j < 64) (w : World) (y : Nat) (hy : y = h ||| 2 ^ j) :
    Calls Tryz.prog 142 #[.agg #[.int .i64 e, .int .u64 l, .int .u64 h], .agg #[.int .i64 V, v, .int .i64 T], .int .i64 (V + (64 + j) : Nat)] w fun e' w' => e' = .returned (.agg #[.int .i64 e, .int .u64 l, .int .u64 y]) ∧ Kept w w' := by
  obtain ⟨sa, n, c, rfl⟩ := hs
  obtain ⟨i, hi⟩ : ∃ i, i = 64 + j := ⟨_, rfl⟩
  obtain ⟨a, ha⟩ : ∃ a, a = V + i := ⟨_, rfl⟩
  rw [← hi, ← ha]
  have h1 : ¬ (a : Int) < (V : Int) := by omega
  have h3 : IntKind.i64.wrap ((a : Int) - (V : Int)) = (i : Int) := by rw [IntKind.wrap_i64]; omega
  have h4 : (a : Int) - (V : Int) = (i : Int) := by omega
  have q0 : (i : Int) / 64 = 1 := by omega
  have q1 : (i : Int) % 64 = j := by omega
  have q2 : Int.tdiv (i : Int) 64 = 1 := by rw [Int.tdiv_eq_ediv_of_nonneg (by omega)]; exact q0
  have q3 : Int.tmod (i : Int) 64 = j := by rw [Int.tmod_eq_emod_of_nonneg (by omega)]; exact q1
  have q4 : ¬ (j : Int) < 0 := by omega
  have p1 := pow_u64 j hj
  have hp := pow_lt64 hj
  obtain ⟨z, hz⟩ : ∃ z, z = 2 ^ j := ⟨_, rfl⟩
  rw [← hz] at p1 hp hy
  have p2 := or_u64 h z hl hp
  rw [← hy] at p2
  clear hz hy hi ha
  go_enter Tryz.func142, Tryz.ntmps142
  go_wp2
  go_region
  all_goals go_wp2
  all_goals exact bodyPost_ret (v := .agg #[.int .i64 e, .int .u64 l, .int .u64 y]) (by simp [results, Tryz.results142, go_sem]) rfl ⟨rfl, by first | exact ((((Kept.refl _).alloc _).alloc _).alloc _) | exact ((((Kept.refl _).alloc _).alloc _).alloc _).drew⟩
theorem without_hi (e l h j : Nat) (hl : h < 18446744073709551616) (hj : j < 64) (w : World) (y : Nat) (hy : y = sdiff h (2 ^ j)) :
    Calls Tryz.prog 201 #[.agg #[.int .i64 e, .int .u64 l, .int .u64 h], .int .i64 (64 + j : Nat)] w fun e' w' => e' = .returned (.agg #[.int .i64 e, .int .u64 l, .int .u64 y]) ∧ Kept w w' := by
  obtain ⟨i, hi⟩ : ∃ i, i = 64 + j := ⟨_, rfl⟩
  rw [← hi]
  have q0 : (i : Int) / 64 = 1 := by omega
  have q1 : (i : Int) % 64 = j := by omega
  have q2 : Int.tdiv (i : Int) 64 = 1 := by rw [Int.tdiv_eq_ediv_of_nonneg (by omega)]; exact q0
  have q3 : Int.tmod (i : Int) 64 = j := by rw [Int.tmod_eq_emod_of_nonneg (by omega)]; exact q1
  have q4 : ¬ (j : Int) < 0 := by omega
  have p1 := pow_u64 j hj
  have hp := pow_lt64 hj
  obtain ⟨z, hz⟩ : ∃ z, z = 2 ^ j := ⟨_, rfl⟩
  rw [← hz] at p1 hp hy
  have p2 := andNot_u64 h z hl hp
  rw [← hy] at p2
  clear hz hy hi
  go_enter Tryz.func201, Tryz.ntmps201
  go_wp2
  go_region
  all_goals go_wp2
  all_goals exact bodyPost_ret (v := .agg #[.int .i64 e, .int .u64 l, .int .u64 y]) (by simp [results, Tryz.results201, go_sem]) rfl ⟨rfl, by first | exact ((((Kept.refl _).alloc _).alloc _)) | exact ((((Kept.refl _).alloc _).alloc _)).drew⟩
end Go.Proofs.YthiemjodcklejaaGreatDoor

/-
  Plain numbers: the swar sum is the number of bits of a word of 64 bits.
-/
namespace Go.Proofs.YthiemjodcklejaaGreatDoor
open Go.RowKit

/-- The number with these bytes, the least one first. -/
def byN : List Nat → Nat
  | [] => 0
  | a :: l => a + 256 * byN l
def repN (m : Nat) (l : List Nat) : Nat := byN (l.map fun _ => m)
theorem byN_s1 (l : List Nat) (h : ∀ a ∈ l, a < 256) : (byN l / 2 &&& repN 0x55 l) + (byN l &&& repN 0x55 l) = byN (l.map t1) := by
  induction l with
  | nil => simp [byN, repN]
  | cons a l ih =>
    have ha := h a (List.mem_cons_self ..)
    have ih' := ih fun x hx => h x (List.mem_cons_of_mem _ hx)
    have hk := byte1 a ha
    show ((a + 256 * byN l) / 2 &&& (0x55 + 256 * repN 0x55 l)) + ((a + 256 * byN l) &&& (0x55 + 256 * repN 0x55 l)) = t1 a + 256 * byN (l.map t1)
    rw [show (a + 256 * byN l) / 2 = 256 * (byN l / 2) + (a / 2 + 128 * (byN l % 2)) by omega, show a + 256 * byN l = 256 * byN l + a by omega, show 0x55 + 256 * repN 0x55 l = 256 * repN 0x55 l + 0x55 by omega,
      and_256 _ _ _ _ (by omega) (by omega), and_256 _ _ _ _ ha (by omega), ← ih']
    have e : (a / 2 + 128 * (byN l % 2)) &&& 0x55 = a / 2 &&& 0x55 := by
      have : byN l % 2 = 0 ∨ byN l % 2 = 1 := by omega
      rcases this with h | h <;> rw [h]
      · rfl
      · exact hk.1.symm
    rw [e]
    unfold t1
    omega
theorem byN_s2 (l : List Nat) (h : ∀ a ∈ l, a < 171) : (byN l / 4 &&& repN 0x33 l) + (byN l &&& repN 0x33 l) = byN (l.map t2) := by
  induction l with
  | nil => simp [byN, repN]
  | cons a l ih =>
    have ha := h a (List.mem_cons_self ..)
    have ih' := ih fun x hx => h x (List.mem_cons_of_mem _ hx)
    have hk := byte2 a ha (byN l % 4) (by omega)
    show ((a + 256 * byN l) / 4 &&& (0x33 + 256 * repN 0x33 l)) + ((a + 256 * byN l) &&& (0x33 + 256 * repN 0x33 l)) = t2 a + 256 * byN (l.map t2)
    rw [show (a + 256 * byN l) / 4 = 256 * (byN l / 4) + (a / 4 + 64 * (byN l % 4)) by omega, show a + 256 * byN l = 256 * byN l + a by omega, show 0x33 + 256 * repN 0x33 l = 256 * repN 0x33 l + 0x33 by omega,
      and_256 _ _ _ _ (by omega) (by omega), and_256 _ _ _ _ (by omega) (by omega), ← ih', ← hk.1]
    unfold t2
    omega
theorem byN_mod16 (l : List Nat) : byN l % 16 = (l.headD 0) % 16 := by
  cases l with
  | nil => rfl
  | cons a l => show (a + 256 * byN l) % 16 = a % 16; omega
theorem byN_s3 (l : List Nat) (h : ∀ a ∈ l, a < 103 ∧ a % 16 < 7) : (byN l / 16 + byN l) &&& repN 15 l = byN (l.map t3) := by
  induction l with
  | nil => simp [byN, repN]
  | cons a l ih =>
    have ha := h a (List.mem_cons_self ..)
    have ih' := ih fun x hx => h x (List.mem_cons_of_mem _ hx)
    have hm : byN l % 16 < 7 := by
      rw [byN_mod16]
      cases l with
      | nil => decide
      | cons b l => exact (h b (by simp)).2
    have hk := byte3 a ha.1 (byN l % 16) hm
    show ((a + 256 * byN l) / 16 + (a + 256 * byN l)) &&& (15 + 256 * repN 15 l) = t3 a + 256 * byN (l.map t3)
    rw [show (a + 256 * byN l) / 16 + (a + 256 * byN l) = 256 * (byN l / 16 + byN l) + (a / 16 + 16 * (byN l % 16) + a) by omega, show 15 + 256 * repN 15 l = 256 * repN 15 l + 15 by omega,
      and_256 _ _ _ _ (by omega) (by omega), ih', hk.1]
    omega
theorem byN_lt (l : List Nat) (h : ∀ a ∈ l, a < 256) : byN l < 256 ^ l.length := by
  induction l with
  | nil => simp [byN]
  | cons a l ih =>
    have ha := h a (List.mem_cons_self ..)
    have ih' := ih fun x hx => h x (List.mem_cons_of_mem _ hx)
    show a + 256 * byN l < 256 ^ (l.length + 1)
    rw [Nat.pow_succ]
    omega
theorem pc_byN (l : List Nat) (h : ∀ a ∈ l, a < 256) : pc (byN l) = (l.map pc).sum := by
  induction l with
  | nil => simp [byN, pc_zero]
  | cons a l ih =>
    show pc (a + 256 * byN l) = pc a + (l.map pc).sum
    rw [Nat.add_comm, pc_byte_step a _ (h a (List.mem_cons_self ..)), ih fun x hx => h x (List.mem_cons_of_mem _ hx)]
theorem byN_of (n : Nat) (h : n < 18446744073709551616) : ∃ l : List Nat, l.length = 8 ∧ (∀ a ∈ l, a < 256) ∧ n = byN l := by
  refine ⟨[n % 256, n / 256 % 256, n / 65536 % 256, n / 16777216 % 256, n / 4294967296 % 256, n / 1099511627776 % 256, n / 281474976710656 % 256, n / 72057594037927936], rfl, ?_, ?_⟩
  · intro a ha
    simp only [List.mem_cons, List.not_mem_nil, or_false] at ha
    omega
  · simp only [byN]
    omega
theorem byN_102 (l : List Nat) (h : ∀ a ∈ l, a < 103) (k : Nat) (hl : l.length = k) : byN l ≤ 102 * byN (List.replicate k 1) := by
  subst hl
  induction l with
  | nil => simp [byN]
  | cons a l ih =>
    have ha := h a (List.mem_cons_self ..)
    have ih' := ih fun x hx => h x (List.mem_cons_of_mem _ hx)
    show a + 256 * byN l ≤ 102 * (1 + 256 * byN (List.replicate l.length 1))
    omega
theorem div_low (a m b : Nat) (h : a < m) : (a + m * b) / m = b := by rw [Nat.add_mul_div_left _ _ (by omega), Nat.div_eq_of_lt h, Nat.zero_add]
def addL : List Nat → List Nat → List Nat
  | [], r => r
  | a :: l, [] => a :: l
  | a :: l, b :: r => (a + b) :: addL l r
theorem byN_addL : ∀ l r, byN (addL l r) = byN l + byN r
  | [], r => by simp [addL, byN]
  | a :: l, [] => by simp [addL, byN]
  | a :: l, b :: r => by
    show (a + b) + 256 * byN (addL l r) = (a + 256 * byN l) + (b + 256 * byN r)
    rw [byN_addL l r]; omega
theorem addL_lt (x y : Nat) : ∀ l r, (∀ a ∈ l, a < x + 1) → (∀ a ∈ r, a < y + 1) → ∀ a ∈ addL l r, a < x + y + 1
  | [], r, _, h2 => fun a ha => by have := h2 a ha; omega
  | a :: l, [], h1, _ => fun x hx => by have := h1 x hx; omega
  | a :: l, b :: r, h1, h2 => fun z hz => by
    rcases List.mem_cons.1 hz with e | e
    · have := h1 a (by simp); have := h2 b (by simp); omega
    · exact addL_lt x y l r (fun q hq => h1 q (List.mem_cons_of_mem _ hq)) (fun q hq => h2 q (List.mem_cons_of_mem _ hq)) z e
theorem addL_len : ∀ l r : List Nat, r.length ≤ l.length → (addL l r).length = l.length
  | [], r, h => by simpa [addL] using h
  | a :: l, [], _ => rfl
  | a :: l, b :: r, h => by simp only [addL, List.length_cons]; rw [addL_len l r (by simpa using h)]
theorem byN_split : ∀ (k : Nat) (l : List Nat), byN l = byN (l.take k) + 256 ^ k * byN (l.drop k)
  | 0, l => by simp [byN]
  | k + 1, [] => by simp [byN]
  | k + 1, a :: l => by
    show a + 256 * byN l = (a + 256 * byN (l.take k)) + 256 ^ (k + 1) * byN (l.drop k)
    have := byN_split k l
    rw [this, Nat.pow_succ, Nat.mul_add, Nat.mul_comm (256 ^ k) 256, Nat.mul_assoc]; omega
theorem swar_step (f : Int → Int) (k m : Nat) (M : Int) (hM : M = (m : Int)) (hm : m = 256 ^ k) (hf : ∀ x, f x = IntKind.u64.wrap (x + x / M)) (l : List Nat) (hl : l.length = 8) (x : Nat) (hx : ∀ a ∈ l, a < x + 1) (h9 : x + x < 256) :
    f (byN l : Nat) = (byN (addL l (l.drop k)) : Nat) ∧ (addL l (l.drop k)).length = 8 ∧ ∀ a ∈ addL l (l.drop k), a < x + x + 1 := by
  have hb := addL_lt x x l (l.drop k) hx fun a ha => hx a (List.mem_of_mem_drop ha)
  have hlen : (addL l (l.drop k)).length = 8 := by rw [addL_len _ _ (by simp), hl]
  refine ⟨?_, hlen, hb⟩
  have hlt : byN (addL l (l.drop k)) < 18446744073709551616 := by
    have := byN_lt (addL l (l.drop k)) fun a ha => by have := hb a ha; omega
    rw [hlen] at this; exact this
  have ha : byN (l.take k) < m := by
    have := byN_lt (l.take k) fun a ha => by have := hx a (List.mem_of_mem_take ha); omega
    rw [hm]
    exact Nat.lt_of_lt_of_le this (Nat.pow_le_pow_right (by omega) (by simp; omega))
  have hs := byN_split k l
  rw [← hm] at hs
  have hd : byN l / m = byN (l.drop k) := by rw [hs]; exact div_low _ _ _ ha
  rw [hf, hM, show ((byN l : Nat) : Int) / (m : Int) = ((byN l / m : Nat) : Int) by simp, hd, ← Int.natCast_add, ← byN_addL]
  exact wrap_u64 _ hlt
def foldB (l : List Nat) : List Nat := addL (addL (addL l (l.drop 1)) ((addL l (l.drop 1)).drop 2)) ((addL (addL l (l.drop 1)) ((addL l (l.drop 1)).drop 2)).drop 4)
theorem foldB_head (l : List Nat) (hl : l.length = 8) : ∃ r, foldB l = l.sum :: r := by
  match l, hl with
  | [y0, y1, y2, y3, y4, y5, y6, y7], _ =>
    refine ⟨(foldB [y0, y1, y2, y3, y4, y5, y6, y7]).tail, ?_⟩
    simp only [foldB, addL, List.drop, List.tail, List.sum_cons, List.sum_nil]
    exact List.cons_eq_cons.2 ⟨by omega, rfl⟩
theorem byN_64 : ∀ (r : List Nat), (∀ a ∈ r, a < 65) → byN r ≤ 64 * byN (List.replicate r.length 1) := by
  intro r
  induction r with
  | nil => intro _; simp [byN]
  | cons a r ih =>
    intro h
    have h1 := h a (List.mem_cons_self ..)
    have h2 := ih (fun x hx => h x (List.mem_cons_of_mem _ hx))
    show a + 256 * byN r ≤ 64 * (1 + 256 * byN (List.replicate r.length 1))
    omega
theorem swar_end (p q : Nat) (hp : p < 65) (h : p + 256 * q < 9223372036854775808) : bits .and .i64 (wrap64 ((p + 256 * q : Nat) : Int)) 127 = (p : Int) := by
  rw [show wrap64 ((p + 256 * q : Nat) : Int) = ((p + 256 * q : Nat) : Int) from by unfold wrap64; omega, show (127 : Int) = ((127 : Nat) : Int) from rfl, and_i64 _ _ h (by decide)]
  rw [show (127 : Nat) = 2 ^ 7 - 1 from rfl, Nat.and_two_pow_sub_one_eq_mod]
  omega
theorem swar_fold (l : List Nat) (hl : l.length = 8) (hb : ∀ a ∈ l, a < 8 + 1) : s6 (s5 (s4 ((byN l : Nat) : Int))) = ((byN (foldB l) : Nat) : Int) ∧ (foldB l).length = 8 ∧ ∀ a ∈ foldB l, a < 65 := by
  obtain ⟨e1, l1, b1⟩ := swar_step s4 1 256 256 rfl (by decide) (fun _ => rfl) l hl 8 hb (by omega)
  obtain ⟨e2, l2, b2⟩ := swar_step s5 2 65536 65536 rfl (by decide) (fun _ => rfl) _ l1 16 b1 (by omega)
  obtain ⟨e3, l3, b3⟩ := swar_step s6 4 4294967296 4294967296 rfl (by decide) (fun _ => rfl) _ l2 32 b2 (by omega)
  refine ⟨?_, l3, b3⟩
  rw [e1, e2, e3]
  rfl
theorem swar_sum (l : List Nat) (hl : l.length = 8) (hb : ∀ a ∈ l, a < 8 + 1) : bits .and .i64 (wrap64 (s6 (s5 (s4 ((byN l : Nat) : Int))))) 127 = ((l.sum : Nat) : Int) := by
  obtain ⟨e, hlen, hB⟩ := swar_fold l hl hb
  obtain ⟨r, hr⟩ := foldB_head l hl
  have hlt := byN_64 _ hB
  rw [hlen, show byN (List.replicate 8 1) = 72340172838076673 from rfl] at hlt
  rw [e]
  rw [hr] at hlt hB ⊢
  have hp := hB _ (List.mem_cons_self ..)
  exact swar_end _ (byN r) hp (by have : l.sum + 256 * byN r ≤ 64 * 72340172838076673 := hlt; omega)
set_option maxHeartbeats 1000000 in
theorem pcS_word (n : Nat) (h : n < 18446744073709551616) : pcS (n : Int) = (pc n : Nat) := by
  obtain ⟨l, hl, hb, rfl⟩ := byN_of n h
  rw [pc_byN l hb]
  have r1 : repN 0x55 l = 6148914691236517205 := by
    unfold repN
    rw [List.map_const', hl]; rfl
  have r2 : repN 0x33 (l.map t1) = 3689348814741910323 := by
    unfold repN
    rw [List.map_const', List.length_map, hl]; rfl
  have r3 : repN 15 ((l.map t1).map t2) = 1085102592571150095 := by
    unfold repN
    rw [List.map_const', List.length_map, List.length_map, hl]; rfl
  have b1 : ∀ a ∈ l.map t1, a < 171 := by
    intro a ha
    obtain ⟨x, hx, rfl⟩ := List.mem_map.1 ha
    exact (byte1 x (hb x hx)).2
  have b2 : ∀ a ∈ (l.map t1).map t2, a < 103 ∧ a % 16 < 7 := by
    intro a ha
    obtain ⟨x, hx, rfl⟩ := List.mem_map.1 ha
    exact (byte2 x (b1 x hx) 0 (by omega)).2
  have l1 : byN (l.map t1) < 18446744073709551616 := by
    have := byN_lt (l.map t1) fun a ha => by have := b1 a ha; omega
    rw [List.length_map, hl] at this; exact this
  have l2 : byN ((l.map t1).map t2) < 18446744073709551616 := by
    have := byN_lt ((l.map t1).map t2) fun a ha => by have := (b2 a ha).1; omega
    rw [List.length_map, List.length_map, hl] at this; exact this
  have e1 : s1 ((byN l : Nat) : Int) = ((byN (l.map t1) : Nat) : Int) := by
    unfold s1
    have := byN_s1 l hb
    rw [r1] at this
    rw [show ((byN l : Nat) : Int) / 2 = ((byN l / 2 : Nat) : Int) by omega, show (6148914691236517205 : Int) = ((6148914691236517205 : Nat) : Int) from rfl, and_u64 _ _ (by omega) (by decide), and_u64 _ _ h (by decide), ← Int.natCast_add, this]
    exact wrap_u64 _ l1
  have e2 : s2 ((byN (l.map t1) : Nat) : Int) = ((byN ((l.map t1).map t2) : Nat) : Int) := by
    unfold s2
    have := byN_s2 (l.map t1) b1
    rw [r2] at this
    rw [show ((byN (l.map t1) : Nat) : Int) / 4 = ((byN (l.map t1) / 4 : Nat) : Int) by omega, show (3689348814741910323 : Int) = ((3689348814741910323 : Nat) : Int) from rfl, and_u64 _ _ (by omega) (by decide), and_u64 _ _ l1 (by decide), ← Int.natCast_add, this]
    exact wrap_u64 _ l2
  have e3 : s3 ((byN ((l.map t1).map t2) : Nat) : Int) = ((byN (((l.map t1).map t2).map t3) : Nat) : Int) := by
    unfold s3
    have := byN_s3 _ b2
    rw [r3] at this
    have hlt := byN_102 ((l.map t1).map t2) (fun a ha => (b2 a ha).1) 8 (by simp [hl])
    rw [show byN (List.replicate 8 1) = 72340172838076673 from rfl] at hlt
    rw [show ((byN ((l.map t1).map t2) : Nat) : Int) / 16 + ((byN ((l.map t1).map t2) : Nat) : Int) = ((byN ((l.map t1).map t2) / 16 + byN ((l.map t1).map t2) : Nat) : Int) by omega, wrap_u64 _ (by omega), show (1085102592571150095 : Int) = ((1085102592571150095 : Nat) : Int) from rfl, and_u64 _ _ (by omega) (by decide), this]
  unfold pcS
  rw [e1, e2, e3, swar_sum _ (by simp [hl]) (fun a ha => by
    obtain ⟨y, hy, rfl⟩ := List.mem_map.1 ha
    obtain ⟨z, hz, rfl⟩ := List.mem_map.1 hy
    obtain ⟨x, hx, rfl⟩ := List.mem_map.1 hz
    exact byte_pc x (hb x hx))]
  rw [List.map_map, List.map_map]
  congr 2
  exact List.map_congr_left fun x hx => pc_256 x (hb x hx)
end Go.Proofs.YthiemjodcklejaaGreatDoor
