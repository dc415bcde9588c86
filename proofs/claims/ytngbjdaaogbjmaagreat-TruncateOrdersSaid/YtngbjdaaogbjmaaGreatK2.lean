import Derived.Test.YtngbjdaaogbjmaaGreatK1
import Derived.Deep.RegionHeld3
import Derived.Deep.AppendLies
import Derived.Deep.RegionLaw
import Derived.IntWalk
import Derived.StillTailTactics
/-
  Slices of nodes of the call's own; walk: formula.Trim.
-/
namespace Go.Proofs.YtngbjdaaogbjmaaGreat
open Go.RowKit

theorem info_node : (Tryz.prog.info? 70).map (fun i => (i.zero, i.size, i.bytes)) = some (some (.agg #[.int .i64 0, .int .i64 0, .slice none 0 0]), 3, 40) := by kernel_rfl
/-- A slice of nodes of these kinds. -/
def KindsAt (w : World) (v : Value) (ks : List Int) : Prop :=
  ∃ (a : Option Addr) (c : Nat), v = .slice a ks.length c ∧ (ks.length ≤ c ∧ (a = none → c = 0)) ∧ ks.length ≤ 140737488355328 ∧
    ∀ i (h : i < ks.length), ∃ b o, a = some ⟨b, o, none⟩ ∧ ∃ (u1 : Int) (sa : Option Addr) (sn sc : Nat), w.cell? ⟨b, o + i * 3, none⟩ = some (.int .i64 ks[i]) ∧ w.cell? ⟨b, o + i * 3 + 1, none⟩ = some (.int .i64 u1) ∧ w.cell? ⟨b, o + i * 3 + 2, none⟩ = some (.slice sa sn sc)
theorem KindsAt.kept {w w' : World} {v : Value} {ks : List Int} (h : KindsAt w v ks) (hk : Kept w w') : KindsAt w' v ks := by
  obtain ⟨a, c, h1, h2, h3, h4⟩ := h
  exact ⟨a, c, h1, h2, h3, fun i hi => let ⟨b, o, h5, u1, sa, sn, sc, h6, h7, h8⟩ := h4 i hi; ⟨b, o, h5, u1, sa, sn, sc, hk.cell h6, hk.cell h7, hk.cell h8⟩⟩
def OwnKinds (w : World) (B : Nat) (v : Value) (ks : List Int) : Prop :=
  ∃ cells, w.ownsRow B 70 3 v ks.length cells ∧ ks.length ≤ 100000 ∧ ∀ i (h : i < ks.length), cells[i * 3]? = some (.int .i64 ks[i]) ∧ ∃ (u1 : Int) (sa : Option Addr) (sn sc : Nat), cells[i * 3 + 1]? = some (.int .i64 u1) ∧ cells[i * 3 + 2]? = some (.slice sa sn sc)
theorem OwnKinds.at {w : World} {B : Nat} {v : Value} {ks : List Int} (h : OwnKinds w B v ks) : KindsAt w v ks := by
  obtain ⟨cells, ⟨h1, h2⟩, h3, h4⟩ := h
  rcases h2 with ⟨rfl, h5⟩ | ⟨g, cap, cur, rfl, h5, h6, h7, h8, h9, h10⟩
  · have : ks = [] := List.eq_nil_of_length_eq_zero h5
    subst this
    exact ⟨none, 0, rfl, ⟨by simp, fun _ => rfl⟩, by simp, fun i h => by simp at h⟩
  · refine ⟨_, cap, rfl, ⟨h7, fun h => by cases h⟩, by omega, fun i hi => ⟨g, 0, rfl, ?_⟩⟩
    have key : ∀ j, j < ks.length * 3 → w.cell? ⟨g, j, none⟩ = cells[j]? := by
      intro j hj
      have e1 : (cur.toList.take (ks.length * 3))[j]? = cells[j]? := by rw [h10]
      rw [List.getElem?_take_of_lt hj] at e1
      simp only [World.cell?, h6]
      simpa using e1
    obtain ⟨e0, u1, sa, sn, sc, e1, e2⟩ := h4 i hi
    refine ⟨u1, sa, sn, sc, ?_, ?_, ?_⟩
    · rw [Nat.zero_add, key _ (by omega)]; exact e0
    · rw [Nat.zero_add, key _ (by omega)]; exact e1
    · rw [Nat.zero_add, key _ (by omega)]; exact e2
/-- The kinds of the first k nodes that are marked. -/
def kindsUp (V : Nat) (mark : List Bool) (nodes : List Nd) : Nat → List Int
  | 0 => []
  | k + 1 => if mark.getD (V + k) false then kindsUp V mark nodes k ++ [(nodes.getD k noNd).kind] else kindsUp V mark nodes k
theorem len_kindsUp (V : Nat) (mark : List Bool) (nodes : List Nd) (k : Nat) : (kindsUp V mark nodes k).length ≤ k := by
  induction k with
  | zero => simp [kindsUp]
  | succ k ih =>
    unfold kindsUp
    split
    · simp; omega
    · omega
/-- What the last loop keeps. -/
structure TInv (w1 w3 wr : World) (g V n : Nat) (ov : Value) (tl : List Int) (ks : List Int) (mark : List Bool) : Prop where
  tlen : tl.length = V + n
  row : RowAt wr (w1.heap.size + 1) 3 (tl.map (.int .i64))
  box : RowAt wr w1.heap.size 24 [.int .i64 V, ov, .int .i64 0]
  own : OwnKinds wr w3.heap.size ov ks
  marks : RowAt wr g 4 (mark.map .bool)
  kept : Kept w1 wr
  size : w3.heap.size ≤ wr.heap.size
def toP (V n k : Nat) : List Int := (List.range k).map (fun i : Nat => (i : Int)) ++ List.replicate (V + n - k) 0
theorem toP_step (V n k : Nat) (h : k < V) : (toP V n k).set k (k : Int) = toP V n (k + 1) := by
  unfold toP
  rw [List.set_append_right _ _ (by simp), List.range_succ, List.map_append, show V + n - k = (V + n - (k + 1)) + 1 by omega, List.replicate_succ]
  simp
theorem toP_len (V n k : Nat) (h : k ≤ V) : (toP V n k).length = V + n := by simp [toP]; omega
theorem arg_step {wo wr w5 : World} {kd kk z : Int} {uv nv : Value} {ys : List Int} {o : Obj} (hown : OwnInts wr (wo.heap.size + 2) uv ys) (hrow : RowAt wr (wo.heap.size + 1) 70 [.int .i64 kd, .int .i64 kk, uv]) (hK : Kept wo wr) (hsz : wo.heap.size + 2 ≤ wr.heap.size) (hys : ys.length ≤ 1000)
    (h5 : w5.ownsRow (wo.heap.size + 2) 3 1 nv (ys.length + 1) (ys.map (Value.int .i64) ++ [.int .i64 z])) (hg : (wr.alloc o).grownBy w5 uv.ownBlock) :
    OwnInts (w5.setCell ⟨wo.heap.size + 1, 2, none⟩ nv) (wo.heap.size + 2) nv (ys ++ [z]) ∧ RowAt (w5.setCell ⟨wo.heap.size + 1, 2, none⟩ nv) (wo.heap.size + 1) 70 [.int .i64 kd, .int .i64 kk, nv] ∧ Kept wo (w5.setCell ⟨wo.heap.size + 1, 2, none⟩ nv) ∧ wo.heap.size + 2 ≤ (w5.setCell ⟨wo.heap.size + 1, 2, none⟩ nv).heap.size := by
  have hne : some (wo.heap.size + 1) ≠ uv.ownBlock := by
    intro e
    have := (hown.1.lt _ e.symm).1
    omega
  have hb : w5.heap[wo.heap.size + 1]? = wr.heap[wo.heap.size + 1]? := (hg.block _ (by simp; omega) hne).trans (Below.heap_alloc wr o _ (by omega))
  have hbel := grown_below hg (hown.1.alloc o) (by simp; omega)
  have hk5 : Kept wo w5 := (hK.alloc o).app (hbel.mono (by omega))
  refine ⟨⟨?_, by simp; omega⟩, ?_, hk5.store (by omega) _ _, ?_⟩
  · have := ownsRow_setCell_below h5 (a := ⟨wo.heap.size + 1, 2, none⟩) (by show wo.heap.size + 1 < _; omega) nv
    simpa using this
  · have := (hrow.same hb).store 2 nv
    simpa using this
  · have h1 := hbel.size
    simp at h1
    simp [World.setCell]; omega
theorem range_other {w : World} {b o : Nat} {cs : List Value} (h : w.rangeAt b o cs) {p : Nat} (hp : b ≠ p) (i : Nat) (u : Value) : (w.setCell ⟨p, i, none⟩ u).rangeAt b o cs :=
  fun j v hj => cell_other (h j v hj) hp i u
theorem app_kind {ops : Array Oper} {rest : List Oper} {o : Oper} {a : Act} {Q : Exit → Act → World → Prop} {w : World} (hgd : o.guard = none) (s x : Operand)
    (ho : o.op = .call { callee := .builtin .append, args := #[s, x], argTypes := #[22, 22] }) (B : Nat) (v : Value) (ks : List Int) (hs : a.eval s = v) (hown : OwnKinds w B v ks)
    (g : Nat) (kd x1 : Int) (sa : Option Addr) (sn sc : Nat) (hx : a.eval x = .slice (some ⟨g, 0, none⟩) 1 1) (hc : w.rangeAt g 0 [.int .i64 kd, .int .i64 x1, .slice sa sn sc]) (hl : ks.length < 100000) (hB : B ≤ w.heap.size)
    (h : ∀ v' w', OwnKinds w' B v' (ks ++ [kd]) → w.grownBy w' v.ownBlock → Below B w w' → wpList Tryz.prog ops Q rest (a.put o.dst v') w') : wpList Tryz.prog ops Q (o :: rest) a w := by
  obtain ⟨i0, hi0, hz0, hz1, hz2⟩ := info_parts info_node
  obtain ⟨cells, hown1, hkl, hcell⟩ := hown
  refine wpList_append_own _ hgd s x 22 ho B 70 i0 _ 3 40 Tryz.underlying22 hi0 hz0 hz1 hz2 rfl (by decide) v ks.length cells hs hown1 ⟨g, 0, none⟩ 1 1 [.int .i64 kd, .int .i64 x1, .slice sa sn sc] hx rfl ?_ ?_ (by unfold maxLen; omega) (by omega) hB ?_
  · intro j u hj
    have := hc j u hj
    rw [Addr.add_mid]; exact this
  · intro u hu
    simp at hu
    rcases hu with rfl | rfl | rfl <;> rfl
  · intro v' w' h3 h4 _
    refine h v' w' ⟨cells ++ [.int .i64 kd, .int .i64 x1, .slice sa sn sc], by simpa using h3, by simp; omega, ?_⟩ h4 (grown_below h4 hown1 hB)
    intro i hi
    simp at hi
    have hcl : cells.length = ks.length * 3 := hown1.1
    by_cases hik : i < ks.length
    · obtain ⟨e0, u1, ua, un, uc, e1, e2⟩ := hcell i hik
      refine ⟨?_, u1, ua, un, uc, ?_, ?_⟩
      · rw [List.getElem?_append_left (by omega), e0, List.getElem_append_left hik]
      · rw [List.getElem?_append_left (by omega), e1]
      · rw [List.getElem?_append_left (by omega), e2]
    · have e : i = ks.length := by omega
      subst e
      refine ⟨?_, x1, sa, sn, sc, ?_, ?_⟩
      · rw [List.getElem?_append_right (by omega), hcl]; simp
      · rw [List.getElem?_append_right (by omega), hcl]; simp
      · rw [List.getElem?_append_right (by omega), hcl]; simp
theorem range_made (w : World) (x0 x1 x2 : Value) (e : TypeId) : (w.alloc (.cells #[x0, x1, x2] e)).rangeAt w.heap.size 0 [x0, x1, x2] := by
  have h := RowAt.made w #[x0, x1, x2] e
  intro j v hj
  match j, hj with
  | 0, hj => simp at hj; subst hj; exact h.cell (i := 0) (by simp)
  | 1, hj => simp at hj; subst hj; exact h.cell (i := 1) (by simp)
  | 2, hj => simp at hj; subst hj; exact h.cell (i := 2) (by simp)
theorem free_other {w : World} {a : Addr} (h : w.frozen? a = false) {p : Nat} (hp : a.block ≠ p) (i : Nat) (u : Value) : (w.setCell ⟨p, i, none⟩ u).frozen? a = false :=
  (World.frozen?_of_block (w := w) (Below.heap_setCell w ⟨p, i, none⟩ u a.block hp)).trans h
theorem Kept.free {w w' : World} (h : Kept w w') {p : Addr} (hp : p.block < w.heap.size) (hf : w.frozen? p = false) : w'.frozen? p = false := (Below.frozen h hp).trans hf
theorem range_madeS (w : World) (a : Addr) (u x0 x1 x2 : Value) (e : TypeId) : ((w.setCell a u).alloc (.cells #[x0, x1, x2] e)).rangeAt w.heap.size 0 [x0, x1, x2] := by
  have h := range_made (w.setCell a u) x0 x1 x2 e
  rwa [show (w.setCell a u).heap.size = w.heap.size by simp [World.setCell]] at h
theorem OwnKinds.kept {w w' : World} {B : Nat} {v : Value} {ks : List Int} (h : OwnKinds w B v ks) (hk : Kept w w') : OwnKinds w' B v ks := by
  obtain ⟨cells, h1, h2⟩ := h
  exact ⟨cells, own_kept h1 hk, h2⟩
theorem OwnKinds.below {w : World} {B : Nat} {v : Value} {ks : List Int} (h : OwnKinds w B v ks) {a : Addr} (ha : a.block < B) (u : Value) : OwnKinds (w.setCell a u) B v ks := by
  obtain ⟨cells, h1, h2⟩ := h
  exact ⟨cells, ownsRow_setCell_below h1 ha u, h2⟩
theorem inv_step {w1 w3 wo wr w6 : World} {g V n k : Nat} {ov nv : Value} {tl ks : List Int} {R : List Bool} {kd t : Int} {cs : Array Value} (hI : TInv w1 w3 wo g V n ov tl ks R) (hK : Kept wo wr) (h1 : w1.heap.size + 1 < w3.heap.size) (hg : w1.heap.size + 1 < g) (hg3 : g < w3.heap.size)
    (h6 : OwnKinds w6 w3.heap.size nv (ks ++ [kd])) (hg6 : ((wr.setCell ⟨w1.heap.size + 1, k, none⟩ (.int .i64 t)).alloc (.cells cs 70)).grownBy w6 ov.ownBlock) :
    TInv w1 w3 (w6.setCell ⟨w1.heap.size, 1, none⟩ nv) g V n nv (tl.set k t) (ks ++ [kd]) R := by
  have hs := hK.size
  have hs3 := hI.size
  have hown : ∀ j, j < w3.heap.size → some j ≠ ov.ownBlock := by
    intro j hj e
    obtain ⟨cells, ho, _⟩ := hI.own
    have := (ho.lt _ e.symm).1
    omega
  have hb : ∀ j, j < w3.heap.size → w6.heap[j]? = (wr.setCell ⟨w1.heap.size + 1, k, none⟩ (.int .i64 t)).heap[j]? := by
    intro j hj
    have l1 : (wr.setCell ⟨w1.heap.size + 1, k, none⟩ (.int .i64 t)).heap.size = wr.heap.size := by simp [World.setCell]
    exact (hg6.block j (by simp; omega) (hown j hj)).trans (Below.heap_alloc _ _ j (by omega))
  have hrow := (hI.row.kept hK).store k (.int .i64 t)
  rw [← List.map_set] at hrow
  have hbox := ((hI.box.kept hK).other (p := w1.heap.size + 1) (by omega) k (.int .i64 t))
  have hmk := ((hI.marks.kept hK).other (p := w1.heap.size + 1) (by omega) k (.int .i64 t))
  refine ⟨by rw [List.length_set]; exact hI.tlen, ?_, ?_, h6.below (by show w1.heap.size < _; omega) _, ?_, ?_, ?_⟩
  · exact (hrow.same (hb _ (by omega))).other (by omega) _ _
  · have := (hbox.same (hb _ (by omega))).store 1 nv
    simpa using this
  · exact (hmk.same (hb _ (by omega))).other (by omega) _ _
  · have l1 : (wr.setCell ⟨w1.heap.size + 1, k, none⟩ (.int .i64 t)).heap.size = wr.heap.size := by simp [World.setCell]
    have k1 : Kept w1 (wr.setCell ⟨w1.heap.size + 1, k, none⟩ (.int .i64 t)) := (hI.kept.trans hK).store (by omega) _ _
    have k2 : Kept w1 w6 := (k1.alloc _).app ⟨hg6.os, hg6.tape, hg6.output, hg6.size, fun j hj => hg6.block j (by simp; omega) (hown j (by omega))⟩
    exact k2.store (Nat.le_refl _) _ _
  · have l1 : (wr.setCell ⟨w1.heap.size + 1, k, none⟩ (.int .i64 t)).heap.size = wr.heap.size := by simp [World.setCell]
    have := hg6.size
    simp at this
    simp [World.setCell] at this ⊢; omega
set_option maxRecDepth 100000 in
set_option maxHeartbeats 8000000 in
theorem trim_any (v : Value) (f : Fm) (V T : Nat) (w : World) (hv : NodesAt w v f.nodes) (hok : Ok f V T) (hck : chkF f = 0) :
    Calls Tryz.prog 132 #[.agg #[.int .i64 V, v, .int .i64 T]] w fun e w' => ∃ tv, ∃ top : Int, e = .returned (.tuple #[.agg #[.int .i64 V, tv, .int .i64 top], .nilIface]) ∧ KindsAt w' tv (kindsUp V (belowK V T f.nodes) f.nodes f.nodes.length) ∧ Kept w w' := by
  have hchk := check_any v f w hv (by rw [hok.top]; have := hok.tlt; have := hok.n128; have := hok.v24; omega)
  rw [hck] at hchk
  unfold fmV at hchk
  rw [hok.vars, hok.top] at hchk
  have HCH := Lib.hid (fun W (hk : Kept w W) => check_any v f W (hv.kept hk) (by rw [hok.top]; have := hok.tlt; have := hok.n128; have := hok.v24; omega))
  have HBL := Lib.hid (fun W (hk : Kept w W) => below_any v f V T W (hv.kept hk) hok)
  have HV := Lib.hid hv
  obtain ⟨a, c, rfl, _, hl, hx⟩ := hv
  obtain ⟨n, hn⟩ : ∃ n, n = f.nodes.length := ⟨_, rfl⟩
  rw [← hn] at hl HCH HBL
  have hn9 : n ≤ 128 := by rw [hn]; exact hok.n128
  have hV9 := hok.v24
  have hT9 : T < V + n := by rw [hn]; exact hok.tlt
  have E1 := Lib.hid (show fmV (.slice a n c) f = .agg #[.int .i64 V, .slice a n c, .int .i64 T] by unfold fmV; rw [hok.vars, hok.top])
  have hch2 : ∀ W, Kept w W → Calls Tryz.prog 16 #[.agg #[.int .i64 V, .slice a n c, .int .i64 T]] W fun e w' => e = .returned (errV (chkF f)) ∧ Kept W w' := fun W hk => by have := HCH.out W hk; rw [E1.out] at this; exact this
  have HCH2 := Lib.hid hch2
  clear hch2
  clear HCH E1
  have E2 := Lib.hid (show errV (chkF f) = .nilIface by rw [hck]; rfl)
  have HX := Lib.hid hx
  have HN := Lib.hid hn
  have HO := Lib.hid hok
  rw [← hn]
  clear hx hn hok hl hck hchk
  go_enter Tryz.func132, Tryz.ntmps132
  go_wp2_with (first
    | (go_at_call 16; refine (HCH2.out _ (((Kept.refl _).alloc _).alloc _)).mono ?_; rintro e w1 ⟨rfl, hk1⟩; rw [E2.out]; have hs1 := hk1.size; simp only [World.size_alloc] at hs1; have ls0 : w.heap.size < w1.heap.size := (by omega); have ls1 : w.heap.size + 1 < w1.heap.size := (by omega); have b0 := hk1.cell (p := ⟨w.heap.size, 0, none⟩) (v := .int .i64 V) (by simp); have b1 := hk1.cell (p := ⟨w.heap.size, 1, none⟩) (v := .slice a n c) (by simp); have b2 := hk1.cell (p := ⟨w.heap.size, 2, none⟩) (v := .int .i64 T) (by simp))
    | (at_make; refine make_one 27 3 _ 8 info_int Tryz.underlying27 rfl rfl _ _ rfl (V + n) (by show Value.int .i64 ((V : Int) + (n : Int)) = .int .i64 ((V + n : Nat) : Int); rw [Int.natCast_add]) (by show Value.int .i64 ((V : Int) + (n : Int)) = .int .i64 ((V + n : Nat) : Int); rw [Int.natCast_add]) (by omega) (by unfold maxLen; omega) ?_; intro w2 hr2 hk2; simp only [World.size_alloc] at hr2; have HR2 := Lib.hid hr2; clear hr2; have hk02 := (hk1.trans ((Kept.refl _).alloc _)).trans hk2; have d0 := hk02.cell (p := ⟨w.heap.size, 0, none⟩) (v := .int .i64 V) (by simp)))
  go_loopw [7, 32] (fun _ i wr => ∃ k : Nat, k ≤ V ∧ i = .int .i64 k ∧ RowAt wr (w1.heap.size + 1) 3 ((toP V n k).map (.int .i64)) ∧ Kept (w1.alloc (.cells #[.int .i64 V, .slice none 0 0, .int .i64 0] 24)) wr) (fun _ i _ => V - (intOf i).toNat)
  case atStart => exact ⟨0, Nat.zero_le _, rfl, by simpa [toP] using HR2.out, hk2⟩
  case round =>
    clear hk2
    obtain ⟨k, hk, rfl, hrow, hK⟩ := hrel
    by_cases hlt : k < V
    · have cY := hrow.cell (i := k) (by rw [List.length_map, toP_len V n k hk]; omega)
      have fY := hrow.free k
      have hnew := hrow.store k (.int .i64 k)
      have hKn := hK.store (g := w1.heap.size + 1) (by simp) k (.int .i64 k)
      have hY1 : (k : Int) < (V : Int) + (n : Int) := by omega
      have hY2 : (k : Int) < ((V + n : Nat) : Int) := by omega
      rw [← List.map_set, toP_step V n k hlt] at hnew
      have HNW := Lib.hid hnew
      have HKN := Lib.hid hKn
      clear hnew hKn hrow hK
      go_wp2
      go_roundw
      case rel => exact ⟨k + 1, by omega, by go_num, HNW.out, HKN.out⟩
      case measure => simp [intOf]; omega
    · have e : k = V := by omega
      have htl := toP_len V n k hk
      obtain ⟨tl, htle⟩ : ∃ tl, tl = toP V n k := ⟨_, rfl⟩
      rw [← htle] at hrow htl
      have hkw := (hk1.trans ((Kept.refl _).alloc _)).trans hK
      have hkW : Kept w wr := (((Kept.refl w).alloc _).alloc _).trans hkw
      have q0 := hkw.cell (p := ⟨w.heap.size, 0, none⟩) (v := .int .i64 V) (by simp)
      have q1 := hkw.cell (p := ⟨w.heap.size, 1, none⟩) (v := .slice a n c) (by simp)
      have q2 := hkw.cell (p := ⟨w.heap.size, 2, none⟩) (v := .int .i64 T) (by simp)
      have hlt1 := hrow.lt
      have HRO := Lib.hid hrow
      have HKK := Lib.hid hK
      have HKW := Lib.hid hkW
      have hVn : (V : Int) ≤ (V : Int) + (n : Int) := by omega
      have hVn2 : (V : Int) ≤ ((V + n : Nat) : Int) := by omega
      clear e hrow hkw hkW hK htle
      go_wp2
      go_region_held3 (fun w' => w'.cell? ⟨w.heap.size, 0, none⟩ = some (.int .i64 V) ∧ w'.cell? ⟨w.heap.size, 1, none⟩ = some (.slice a n c) ∧ w'.cell? ⟨w.heap.size, 2, none⟩ = some (.int .i64 T))
        (first | go_keep | exact ⟨hk3.cell q0, hk3.cell q1, hk3.cell q2⟩)
        (first | (go_at_call 183; refine (HBL.out _ (HKW.out.drew)).mono ?_; rintro e w3 ⟨g, rfl, hg, hr3, hk3⟩))
      obtain ⟨R, hR⟩ : ∃ R, R = belowK V T f.nodes := ⟨_, rfl⟩
      rw [← hR] at hr3
      have HR3 := Lib.hid hr3
      have HRe := Lib.hid hR
      have HG3 : g < w3.heap.size := HR3.out.lt
      have hg2 : w1.heap.size + 1 < g := by have h9 : wr.heap.size ≤ g := hg; omega
      have hkw3 : Kept (w1.alloc (.cells #[.int .i64 V, .slice none 0 0, .int .i64 0] 24)) w3 := HKK.out.trans ((Kept.refl wr).drew.trans hk3)
      have hinv0 : TInv w1 w3 w3 g V n (.slice none 0 0) tl [] R := ⟨htl, HRO.out.kept ((Kept.refl wr).drew.trans hk3), (RowAt.made w1 _ _).kept hkw3, ⟨[], World.ownsRow_nil _ _ _ _, by simp, fun i h => by simp at h⟩, HR3.out, ((Kept.refl w1).alloc _).trans hkw3, Nat.le_refl _⟩
      have HI0 := Lib.hid hinv0
      have HKW1 := Lib.hid hk1
      clear hR hr3 hinv0 hkw3 hk3 q0 q1 q2 HRO HKK hg
      by_cases hn0 : n = 0
      · subst hn0
        have hkW2 := HKW1.out.trans HI0.out.kept
        have hbx := HI0.out.box
        have d0 := hkW2.cell (p := ⟨w.heap.size, 0, none⟩) (v := .int .i64 V) (by simp)
        have d2 := hkW2.cell (p := ⟨w.heap.size, 2, none⟩) (v := .int .i64 T) (by simp)
        have c0 := hbx.cell (i := 0) (by simp)
        have c1 := hbx.cell (i := 1) (by simp)
        have c2 := hbx.cell (i := 2) (by simp)
        have f2 := hbx.free 2
        have hTl : T < tl.length := by rw [HI0.out.tlen]; omega
        obtain ⟨zt, cT⟩ : ∃ z : Int, w3.cell? ⟨w1.heap.size + 1, T, none⟩ = some (.int .i64 z) := ⟨tl[T], by have := HI0.out.row.cell (i := T) (by simpa using hTl); rw [List.getElem_map] at this; exact this⟩
        have hY1 : (T : Int) < (V : Int) := by omega
        have hres : RowAt w3 (w.heap.size + 1) 24 [.int .i64 0, .slice none 0 0, .int .i64 0] := by
          have := (RowAt.made (w.alloc (.cells #[.int .i64 V, .slice a 0 c, .int .i64 T] 24)) #[.int .i64 0, .slice none 0 0, .int .i64 0] 24).kept hkW2
          simpa using this
        have r0 := hres.cell (i := 0) (by simp)
        have r1 := hres.cell (i := 1) (by simp)
        have r2 := hres.cell (i := 2) (by simp)
        have s0 := hres.free 0
        have s1 := hres.free 1
        have s2 := hres.free 2
        simp only [List.getElem_cons_succ, List.getElem_cons_zero] at r0 r1 r2 c0 c1 c2
        have ne1 : w1.heap.size ≠ w.heap.size + 1 := by omega
        have ne2 : w.heap.size + 1 ≠ w1.heap.size := by omega
        clear hbx hres
        go_wp2
        refine wp_loop_rounds 1 ?_
        rw [rounds_succ]
        go_wp2
        refine bodyPost_ret (v := .tuple #[.agg #[.int .i64 V, .slice none 0 0, .int .i64 zt], .nilIface]) ?_ rfl ⟨_, _, rfl, ?_, ?_⟩
        · simp [results, Tryz.results132, go_sem, r0, r1, r2]
        · exact ⟨none, 0, rfl, ⟨by simp [kindsUp], fun _ => rfl⟩, by simp [kindsUp], fun i h => by simp [kindsUp] at h⟩
        · have hkA : Kept w w3 := (((Kept.refl w).alloc _).alloc _).trans hkW2
          exact (((hkA.store (by omega) _ _).store (by omega) _ _).store (by omega) _ _).store (by omega) _ _
      · have hn1 : 0 < n := by omega
        have hn2 : V < V + n := by omega
        go_wp2
        go_loopw [8, 9, 10, 11, 13, 46, 66] (fun _ _ _ _ _ i _ wr => ∃ (k : Nat) (ov : Value) (tl : List Int), k ≤ n ∧ i = .int .i64 k ∧ TInv w1 w3 wr g V n ov tl (kindsUp V R f.nodes k) R) (fun _ _ _ _ _ i _ _ => n - (intOf i).toNat)
        case atStart => exact ⟨0, _, tl, Nat.zero_le _, rfl, HI0.out⟩
        case round =>
          obtain ⟨k, ov, tl, hk, rfl, hinv⟩ := hrel
          have hkW2 := HKW1.out.trans hinv.kept
          have q0 := hkW2.cell (p := ⟨w.heap.size, 0, none⟩) (v := .int .i64 V) (by simp)
          have q1 := hkW2.cell (p := ⟨w.heap.size, 1, none⟩) (v := .slice a n c) (by simp)
          have q2 := hkW2.cell (p := ⟨w.heap.size, 2, none⟩) (v := .int .i64 T) (by simp)
          by_cases hlt : k < n
          · have hRl : R.length = V + n := by rw [HRe.out, len_belowK, HN.out]
            have cm := hinv.marks.cell (i := V + k) (by simp; omega)
            rw [getD_map_bool R (V + k) (by omega)] at cm
            have hup : kindsUp V R f.nodes (k + 1) = if R.getD (V + k) false then kindsUp V R f.nodes k ++ [(f.nodes.getD k noNd).kind] else kindsUp V R f.nodes k := rfl
            have HUP := Lib.hid hup
            clear hup
            cases hmk : R.getD (V + k) false with
            | false =>
              rw [hmk] at cm
              have HMK := Lib.hid hmk
              have HI := Lib.hid hinv
              clear hmk hinv hkW2
              go_wp2
              go_roundw
              case rel => exact ⟨k + 1, ov, tl, by omega, by go_num, by rw [HUP.out, HMK.out]; exact HI.out⟩
              case measure => simp [intOf]; omega
            | true =>
              rw [hmk] at cm
              have HMK := Lib.hid hmk
              have HI := Lib.hid hinv
              clear hmk hinv
              have hkx : k < f.nodes.length := by have := HN.out; omega
              obtain ⟨b, o, rfl, u, hc1, hc2, hc3, hI⟩ := HX.out k hkx
              have hkA : Kept w wr := (((Kept.refl w).alloc (.cells #[.int .i64 V, .slice (some ⟨b, o, none⟩) n c, .int .i64 T] 24)).alloc (.cells #[.int .i64 0, .slice none 0 0, .int .i64 0] 24)).trans hkW2
              have hrange := node_range (hkA.cell hc1) (hkA.cell hc2) (hkA.cell hc3)
              obtain ⟨ax, cx, rfl, _, hlx, hcx⟩ := hI
              have HRG := Lib.hid hrange
              clear hc1 hc2 hc3 hrange
              go_wp2_with (with_reducible refine wpList_load_mid rfl 70 _ rfl b (o + k * 3) rfl _ _ HRG.out Tryz.underlying70 rfl (by kernel_rfl) ?_)
              obtain ⟨kd, hkd⟩ : ∃ x, x = f.nodes[k].kind := ⟨_, rfl⟩
              obtain ⟨kk, hkk⟩ : ∃ x, x = f.nodes[k].k := ⟨_, rfl⟩
              have hargs := HO.out.args k hkx
              have h16 := argsOk_le (HO.out.argc k hkx)
              obtain ⟨args, hag⟩ : ∃ x, x = f.nodes[k].args := ⟨_, rfl⟩
              rw [← hag] at hcx hargs hlx h16
              rw [← hkd, ← hkk, ← hag]
              obtain ⟨na, hna⟩ : ∃ x, x = args.length := ⟨_, rfl⟩
              rw [← hna] at hlx h16 ⊢
              have HKD := Lib.hid hkd
              have HCX := Lib.hid hcx
              have HAR := Lib.hid hargs
              have HNA := Lib.hid hna
              have HKA := Lib.hid hkA
              obtain ⟨i0, hi0, hz0, hz1, hz2⟩ := info_parts info_int
              have I0 := Lib.hid hi0
              have I1 := Lib.hid hz0
              have I2 := Lib.hid hz1
              have I3 := Lib.hid hz2
              have sz1 : w1.heap.size + 1 < wr.heap.size := HI.out.row.lt
              obtain ⟨wo, rfl⟩ : ∃ wo : World, wo = wr := ⟨_, rfl⟩
              clear hkd hkk hag hcx hargs hna hkA hkW2 hi0 hz0 hz1 hz2 q0 q1 q2 cm
              go_loopw [13, 66] (fun _ j wi => ∃ (p : Nat) (uv : Value) (ys : List Int), p ≤ na ∧ j = .int .i64 p ∧ ys.length ≤ p ∧ OwnInts wi (wo.heap.size + 2) uv ys ∧ RowAt wi (wo.heap.size + 1) 70 [.int .i64 kd, .int .i64 kk, uv] ∧ Kept wo wi ∧ wo.heap.size + 2 ≤ wi.heap.size) (fun _ j _ => na - (intOf j).toNat)
              case atStart => exact ⟨0, .slice none 0 0, [], Nat.zero_le _, rfl, by simp, OwnInts.nil _ _, by have := RowAt.made (wo.alloc (.cells #[.int .i64 kd, .int .i64 kk, .slice ax na cx] 70)) #[.int .i64 kd, .int .i64 kk, .slice none 0 0] 70; simpa using this, ((Kept.refl _).alloc _).alloc _, by simp⟩
              case round =>
                obtain ⟨p, uv, ys, hp, rfl, hys, hown, hrow, hK, hsz⟩ := hrel
                by_cases hpn : p < na
                · have hpx : p < args.length := by have := HNA.out; omega
                  obtain ⟨b2, o2, rfl, hc0⟩ := HCX.out p hpx
                  have hcell := (HKA.out.trans hK).cell hc0
                  obtain ⟨y, hy⟩ : ∃ y, y = args[p] := ⟨_, rfl⟩
                  have hy2 := HAR.out args[p] (List.getElem_mem _)
                  rw [← hy] at hcell hy2
                  obtain ⟨Y, hY⟩ := Int.eq_ofNat_of_zero_le hy2.1
                  subst hY
                  have hYl : Y < tl.length := by rw [HI.out.tlen]; omega
                  have cT := hK.cell (HI.out.row.cell (i := Y) (by simpa using hYl))
                  obtain ⟨z, hz⟩ : ∃ z, z = tl[Y] := ⟨_, rfl⟩
                  simp only [List.getElem_map] at cT
                  rw [← hz] at cT
                  have hY1 : (Y : Int) < (V : Int) + (n : Int) := by omega
                  have hY2 : (Y : Int) < ((V + n : Nat) : Int) := by omega
                  have cB := hrow.cell (i := 2) (by simp)
                  have fB := hrow.free 2
                  simp only [List.getElem_cons_succ, List.getElem_cons_zero] at cB
                  have hszi : wo.heap.size + 1 < wr.heap.size := by omega
                  have hszj : w1.heap.size + 1 < wr.heap.size := by omega
                  have HOWN := Lib.hid hown
                  have HROW := Lib.hid hrow
                  have HK := Lib.hid hK
                  have hfar : some (wo.heap.size + 1) ≠ uv.ownBlock := by
                    intro e
                    have := (hown.1.lt _ e.symm).1
                    omega
                  have HFAR := Lib.hid hfar
                  clear hc0 hy hz hown hrow hK hfar
                  go_wp2
                  go_region_law ((refine step_append_lies _ (by rfl) _ _ _ (by rfl) (wo.heap.size + 2) 3 i0 _ 1 8 Tryz.underlying27 I0.out I1.out I2.out I3.out rfl (by omega) uv ys.length _ (by rfl) ((HOWN.out.1.alloc _).drew) ⟨wr.heap.size, 0, none⟩ 1 1 [.int .i64 z] (by rfl) (by rfl) (World.news_of_block (cs := #[.int .i64 z]) (t := 3) (fr := (0, 0)) (heap_alloc_new wr _)) (by simp [Value.oneCell']) (by omega) (by unfold maxLen; omega) (by omega) (by simp; omega) (wr.heap.size + 1) (by simp) ?_; intro gg cap w5 hown5 hgrow hat hlt5; have st5 := hgrow.cell (a := ⟨wo.heap.size + 1, 2, none⟩) (v := uv) (((Kept.refl wr).alloc _).cell cB) HFAR.out; have sf5 := (World.frozen?_of_block (a := ⟨wo.heap.size + 1, 2, none⟩) (hgrow.block (wo.heap.size + 1) (by simp; omega) HFAR.out)).trans ((Below.frozen ((Kept.refl wr).alloc _) (p := ⟨wo.heap.size + 1, 2, none⟩) (by simp; omega)).trans fB)))
                  all_goals go_wp2
                  all_goals
                    have R := arg_step (o := .cells #[.int .i64 z] 3) HOWN.out HROW.out HK.out hsz (by omega) hown5 ⟨hgrow.os, hgrow.tape, hgrow.output, hgrow.size, hgrow.block⟩
                    go_roundw
                    case rel => exact ⟨p + 1, _, _, by omega, by go_num, by simp; omega, R.1, R.2.1, R.2.2.1, R.2.2.2⟩
                    case measure => simp [intOf]; omega
                · obtain ⟨ks, hks⟩ : ∃ ks, ks = kindsUp V R f.nodes k := ⟨_, rfl⟩
                  have hkl := len_kindsUp V R f.nodes k
                  rw [← hks] at HI HUP hkl
                  have HKL := Lib.hid (show ks.length < 100000 by omega)
                  have hkc := (HKW1.out.trans HI.out.kept).trans hK
                  have q0 := hkc.cell (p := ⟨w.heap.size, 0, none⟩) (v := .int .i64 V) (by simp)
                  have hbx := HI.out.box.kept hK
                  have c5 := hbx.cell (i := 1) (by simp)
                  have f5 := hbx.free 1
                  have hrt := HI.out.row.kept hK
                  have cT := hrt.cell (i := V + k) (by simp [HI.out.tlen]; omega)
                  have fT := hrt.free (V + k)
                  have hY1 : (V : Int) + (k : Int) < (V : Int) + (n : Int) := by omega
                  have hY2 : (V : Int) + (k : Int) < ((V + n : Nat) : Int) := by omega
                  have szz : w1.heap.size < wr.heap.size := by omega
                  have hrng : wr.rangeAt (wo.heap.size + 1) 0 [.int .i64 kd, .int .i64 kk, uv] := by
                    intro j v hj
                    match j, hj with
                    | 0, hj => simp at hj; subst hj; exact hrow.cell (i := 0) (by simp)
                    | 1, hj => simp at hj; subst hj; exact hrow.cell (i := 1) (by simp)
                    | 2, hj => simp at hj; subst hj; exact hrow.cell (i := 2) (by simp)
                  simp only [List.getElem_cons_succ, List.getElem_cons_zero] at c5
                  obtain ⟨oa, oc, hov, _⟩ := HI.out.own.at
                  subst hov
                  obtain ⟨on, hon⟩ : ∃ on, on = ks.length := ⟨_, rfl⟩
                  rw [← hon] at HI c5 hbx hkl
                  obtain ⟨ua, un, uc, huv⟩ := hown.ints.shape
                  subst huv
                  have HRNG := Lib.hid (fun x => range_other hrng (p := w1.heap.size + 1) (by omega) (V + k) x)
                  have HRT := Lib.hid hrt
                  have HBX := Lib.hid hbx
                  have HK := Lib.hid hK
                  have HON := Lib.hid hon
                  clear hrng hrt hbx hK hkc hks hrow hown hon
                  have g3 : g < w3.heap.size := HG3
                  have g4 : w1.heap.size + 1 < w3.heap.size := by omega
                  have hok1 := (HI.out.own.kept HK.out)
                  have HOK1 := Lib.hid (fun x => (hok1.below (a := ⟨w1.heap.size + 1, V + k, none⟩) (by show w1.heap.size + 1 < _; omega) x).kept ((Kept.refl _).alloc (.cells #[.int .i64 kd, .int .i64 kk, .slice ua un uc] 70)))
                  have hne5 : some w1.heap.size ≠ (Value.slice oa on oc).ownBlock := by
                    intro e
                    obtain ⟨cells, ho, _⟩ := HI.out.own
                    have := (ho.lt _ e.symm).1
                    omega
                  have HNE5 := Lib.hid hne5
                  have hw3r : w3.heap.size ≤ wr.heap.size := Nat.le_trans HI.out.size HK.out.size
                  clear hok1 hne5
                  go_wp2_with (first
                    | (with_reducible refine wpList_load_mid rfl 70 _ rfl (wo.heap.size + 1) 0 rfl _ _ (HRNG.out _) Tryz.underlying70 rfl (by kernel_rfl) ?_)
                    | (at_builtin; refine app_kind rfl _ _ rfl w3.heap.size _ ks rfl (HOK1.out _) _ kd kk ua un uc rfl (range_madeS _ _ _ _ _ _ _) HKL.out (by simp [World.setCell]; omega) ?_; intro nv w6 hown6 hg6 hb6; obtain ⟨xa, xc, rfl, _⟩ := hown6.at; have HOWN6 := Lib.hid hown6; clear hown6; have st5 := hg6.cell (a := ⟨w1.heap.size, 1, none⟩) (v := .slice oa on oc) (((Kept.refl _).alloc _).cell (cell_other c5 (p := w1.heap.size + 1) (by show w1.heap.size ≠ _; omega) _ _)) HNE5.out; have sf5 := (World.frozen?_of_block (a := ⟨w1.heap.size, 1, none⟩) (hg6.block w1.heap.size (by simp [World.setCell]; omega) HNE5.out)).trans (((Kept.refl _).alloc _).free (p := ⟨w1.heap.size, 1, none⟩) (by simp [World.setCell]; omega) (free_other f5 (p := w1.heap.size + 1) (by show w1.heap.size ≠ _; omega) _ _))))
                  have RI := inv_step (kd := kd) (t := (V : Int) + (on : Int)) HI.out HK.out g4 hg2 g3 HOWN6.out ⟨hg6.os, hg6.tape, hg6.output, hg6.size, hg6.block⟩
                  rw [show (ks ++ [kd]).length = ks.length + 1 by simp] at RI
                  go_roundw
                  case rel => exact ⟨k + 1, _, _, by omega, by go_num, by rw [HUP.out, HMK.out, if_pos rfl, show (f.nodes.getD k noNd).kind = kd by rw [HKD.out]; simp [List.getD_eq_getElem?_getD, hkx]]; exact RI⟩
                  case measure => simp [intOf]; omega
          · have e : k = n := by omega
            subst e
            obtain ⟨oa, oc, hov, _⟩ := hinv.own.at
            subst hov
            have hbx := hinv.box
            have c0 := hbx.cell (i := 0) (by simp)
            have c1 := hbx.cell (i := 1) (by simp)
            have c2 := hbx.cell (i := 2) (by simp)
            have f2 := hbx.free 2
            have hTl : T < tl.length := by rw [hinv.tlen]; omega
            obtain ⟨zt, cT⟩ : ∃ z : Int, wr.cell? ⟨w1.heap.size + 1, T, none⟩ = some (.int .i64 z) := ⟨tl[T], by have := hinv.row.cell (i := T) (by simpa using hTl); rw [List.getElem_map] at this; exact this⟩
            have hY1 : (T : Int) < (V : Int) + (k : Int) := by omega
            have hY2 : (T : Int) < ((V + k : Nat) : Int) := by omega
            have hres : RowAt wr (w.heap.size + 1) 24 [.int .i64 0, .slice none 0 0, .int .i64 0] := by
              have := (RowAt.made (w.alloc (.cells #[.int .i64 V, .slice a k c, .int .i64 T] 24)) #[.int .i64 0, .slice none 0 0, .int .i64 0] 24).kept hkW2
              simpa using this
            have r0 := hres.cell (i := 0) (by simp)
            have r1 := hres.cell (i := 1) (by simp)
            have r2 := hres.cell (i := 2) (by simp)
            have s0 := hres.free 0
            have s1 := hres.free 1
            have s2 := hres.free 2
            simp only [List.getElem_cons_succ, List.getElem_cons_zero] at r0 r1 r2
            simp only [List.getElem_cons_succ, List.getElem_cons_zero] at c0 c1 c2
            have HI := Lib.hid hinv
            have ne1 : w1.heap.size ≠ w.heap.size + 1 := by omega
            have ne2 : w.heap.size + 1 ≠ w1.heap.size := by omega
            clear hinv hbx hres
            go_wp2
            refine bodyPost_ret (v := .tuple #[.agg #[.int .i64 V, .slice oa (kindsUp V R f.nodes k).length oc, .int .i64 zt], .nilIface]) ?_ rfl ⟨_, _, rfl, ?_, ?_⟩
            · simp [results, Tryz.results132, go_sem, r0, r1, r2]
            · rw [← HRe.out]
              have h3 : w1.heap.size + 1 < w3.heap.size := by omega
              exact ((((HI.out.own.below (a := ⟨w1.heap.size, 2, none⟩) (by show w1.heap.size < _; omega) _).below (a := ⟨w.heap.size + 1, 0, none⟩) (by show w.heap.size + 1 < _; omega) _).below (a := ⟨w.heap.size + 1, 1, none⟩) (by show w.heap.size + 1 < _; omega) _).below (a := ⟨w.heap.size + 1, 2, none⟩) (by show w.heap.size + 1 < _; omega) _).at
            · have hkA : Kept w wr := (((Kept.refl w).alloc _).alloc _).trans hkW2
              exact (((hkA.store (by omega) _ _).store (by omega) _ _).store (by omega) _ _).store (by omega) _ _
end Go.Proofs.YtngbjdaaogbjmaaGreat

/-
  Walks: formula.Trim of a formula that is refused; coherent.Syntax.
-/
namespace Go.Proofs.YtngbjdaaogbjmaaGreat
open Go.RowKit

set_option maxRecDepth 100000 in
set_option maxHeartbeats 2000000 in
theorem trim_err (v : Value) (f : Fm) (w : World) (hv : NodesAt w v f.nodes) (ht : f.top ≤ 9223372036854775807) (hck : chkF f ≠ 0) :
    Calls Tryz.prog 132 #[fmV v f] w fun e w' => e = .returned (.tuple #[.agg #[.int .i64 0, .slice none 0 0, .int .i64 0], errV (chkF f)]) ∧ Kept w w' := by
  have H := Lib.hid (fun W (hk : Kept w W) => check_any v f W (hv.kept hk) ht)
  have E2 := Lib.hid (errV_pos hck)
  have HE := Lib.hid hck
  obtain ⟨a, c, rfl, _⟩ := hv
  obtain ⟨n, hn⟩ : ∃ n, n = f.nodes.length := ⟨_, rfl⟩
  rw [← hn] at H ⊢
  obtain ⟨vars, nodes, top⟩ := f
  clear hn hck
  go_enter Tryz.func132, Tryz.ntmps132
  go_wp2_with (go_at_call 16; refine (H.out _ (((Kept.refl _).alloc _).alloc _)).mono ?_; rintro e w1 ⟨rfl, hk1⟩; rw [E2.out]; have hs1 := hk1.size; simp only [World.size_alloc] at hs1; have hres := ((RowAt.made (w.alloc (.cells #[.int .i64 vars, .slice a n c, .int .i64 top] 24)) #[.int .i64 0, .slice none 0 0, .int .i64 0] 24).kept hk1); simp only [World.size_alloc] at hres; have r0 := hres.cell (i := 0) (by simp); have r1 := hres.cell (i := 1) (by simp); have r2 := hres.cell (i := 2) (by simp); have s0 := hres.free 0; have s1 := hres.free 1; have s2 := hres.free 2; simp only [List.getElem_cons_succ, List.getElem_cons_zero] at r0 r1 r2; clear hres)
  refine bodyPost_ret (v := .tuple #[.agg #[.int .i64 0, .slice none 0 0, .int .i64 0], errV (chkF ⟨vars, nodes, top⟩)]) ?_ rfl ⟨rfl, ?_⟩
  · simp [results, Tryz.results132, go_sem, r0, r1, r2, E2.out]
  · have hkA : Kept w w1 := (((Kept.refl w).alloc _).alloc _).trans hk1
    exact ((hkA.store (by omega) _ _).store (by omega) _ _).store (by omega) _ _

/-- No negation and no exclusive or. -/
def monoK (ks : List Int) : Bool := ks.all fun k => !(k == 1 || k == 5)
def synK (V T : Nat) (f : Fm) : Bool := monoK (kindsUp V (belowK V T f.nodes) f.nodes f.nodes.length)

set_option maxHeartbeats 2000000 in
theorem syntax_err (v : Value) (f : Fm) (w : World) (hv : NodesAt w v f.nodes) (ht : f.top ≤ 9223372036854775807) (hck : chkF f ≠ 0) :
    Calls Tryz.prog 75 #[fmV v f] w fun e w' => e = .returned (.tuple #[.bool false, errV (chkF f)]) ∧ Kept w w' := by
  have H := Lib.hid (fun W (hk : Kept w W) => trim_err v f W (hv.kept hk) ht hck)
  have E2 := Lib.hid (errV_pos hck)
  obtain ⟨q, hq⟩ : ∃ q, q = chkF f := ⟨_, rfl⟩
  rw [← hq] at H E2 ⊢
  clear hv ht hck hq
  go_enter Tryz.func75, Tryz.ntmps75
  go_wp2_with (go_at_call 132; refine (H.out _ ((Kept.refl _).alloc _)).mono ?_; rintro e w1 ⟨rfl, hk1⟩; rw [E2.out]; have hs1 := hk1.size; simp only [World.size_alloc] at hs1)
  go_ret2
  exact ⟨by rw [E2.out]; rfl, ((((Kept.refl _).alloc _).trans hk1).alloc _)⟩

set_option maxHeartbeats 4000000 in
theorem syntax_ok (v : Value) (f : Fm) (V T : Nat) (w : World) (hv : NodesAt w v f.nodes) (hok : Ok f V T) (hck : chkF f = 0) :
    Calls Tryz.prog 75 #[.agg #[.int .i64 V, v, .int .i64 T]] w fun e w' => e = .returned (.tuple #[.bool (synK V T f), .nilIface]) ∧ Kept w w' := by
  have H := Lib.hid (fun W (hk : Kept w W) => trim_any v f V T W (hv.kept hk) hok hck)
  have hlen := len_kindsUp V (belowK V T f.nodes) f.nodes f.nodes.length
  have h128 := hok.n128
  unfold synK
  obtain ⟨ks, hks⟩ : ∃ ks, ks = kindsUp V (belowK V T f.nodes) f.nodes f.nodes.length := ⟨_, rfl⟩
  rw [← hks] at H hlen ⊢
  obtain ⟨r, hr⟩ : ∃ r, r = monoK ks := ⟨_, rfl⟩
  rw [← hr]
  have HR := Lib.hid hr
  obtain ⟨n, hn⟩ : ∃ n, n = ks.length := ⟨_, rfl⟩
  have hn9 : n ≤ 128 := by omega
  have HN := Lib.hid hn
  clear hv hok hck hks hr hlen h128 hn
  go_enter Tryz.func75, Tryz.ntmps75
  go_wp2_with (go_at_call 132; refine (H.out _ ((Kept.refl _).alloc _)).mono ?_; rintro e w1 ⟨tv, top, rfl, hkd, hk1⟩; obtain ⟨ta, tc, rfl, _, _, htc⟩ := hkd; rw [← HN.out]; have HTC := Lib.hid htc; clear htc; have hs1 := hk1.size; simp only [World.size_alloc] at hs1)
  have hk2 : Kept w (w1.alloc (.cells #[.int .i64 V, .slice ta n tc, .int .i64 top] 24)) := (((Kept.refl _).alloc _).trans hk1).alloc _
  go_loopw [7, 19] (fun _ i wr => ∃ k : Nat, k ≤ n ∧ i = .int .i64 k ∧ Hid (monoK (ks.take k) = true) ∧ Kept w1 wr ∧ Kept w wr) (fun _ i _ => n - (intOf i).toNat)
  case atStart => exact ⟨0, Nat.zero_le _, rfl, Lib.hid rfl, (Kept.refl _).alloc _, hk2⟩
  case round =>
    clear hk2
    obtain ⟨k, hk, rfl, HM, hK, hKw⟩ := hrel
    by_cases hlt : k < n
    · have hkx : k < ks.length := by have := HN.out; omega
      obtain ⟨b, o, rfl, u1, sa, sn, sc, c0, c1, c2⟩ := HTC.out k hkx
      have hstep : monoK (ks.take (k + 1)) = (monoK (ks.take k) && !(ks[k] == 1 || ks[k] == 5)) := by
        unfold monoK; rw [List.take_succ_eq_append_getElem hkx, List.all_append]; simp
      have hbad : (ks[k] == 1 || ks[k] == 5) = true → r = false := by
        intro h; rw [HR.out, monoK, List.all_eq_false]; exact ⟨ks[k], List.getElem_mem _, by rw [h]; simp⟩
      obtain ⟨kd, hkd⟩ : ∃ kd, kd = ks[k] := ⟨_, rfl⟩
      rw [← hkd] at c0 hstep hbad
      have hrange : wr.rangeAt b (o + k * 3) [.int .i64 kd, .int .i64 u1, .slice sa sn sc] := by
        intro j v hj
        match j, hj with
        | 0, hj => simp at hj; subst hj; exact hK.cell c0
        | 1, hj => simp at hj; subst hj; exact hK.cell c1
        | 2, hj => simp at hj; subst hj; exact hK.cell c2
      have HRG := Lib.hid hrange
      have HS := Lib.hid hstep
      have HB := Lib.hid hbad
      clear c0 c1 c2 hrange hstep hbad hkd
      by_cases h1 : kd = 1
      · subst h1
        go_wp2_with (with_reducible refine wpList_load_mid rfl 70 _ rfl b (o + k * 3) rfl _ _ HRG.out Tryz.underlying70 rfl (by kernel_rfl) ?_)
        go_ret2
        exact ⟨by rw [HB.out rfl]; rfl, (hKw.alloc _)⟩
      · by_cases h5 : kd = 5
        · subst h5
          go_wp2_with (with_reducible refine wpList_load_mid rfl 70 _ rfl b (o + k * 3) rfl _ _ HRG.out Tryz.underlying70 rfl (by kernel_rfl) ?_)
          go_ret2
          exact ⟨by rw [HB.out rfl]; rfl, (hKw.alloc _)⟩
        · have b1 : (kd == 1) = false := by simpa using h1
          have b5 : (kd == 5) = false := by simpa using h5
          go_wp2_with (with_reducible refine wpList_load_mid rfl 70 _ rfl b (o + k * 3) rfl _ _ HRG.out Tryz.underlying70 rfl (by kernel_rfl) ?_)
          go_roundw
          case rel => exact ⟨k + 1, by omega, by go_num, Lib.hid (by rw [HS.out, HM.out, b1, b5]; rfl), hK.alloc _, hKw.alloc _⟩
          case measure => simp [intOf]; omega
    · have e : r = true := by
        have := HM.out
        rw [List.take_of_length_le (by have := HN.out; omega)] at this
        rw [HR.out]; exact this
      have HE := Lib.hid e
      clear e
      go_wp2
      go_ret2
      exact ⟨by rw [HE.out]; rfl, hKw⟩
end Go.Proofs.YtngbjdaaogbjmaaGreat

/-
  Rows of families; walk: bottomup.fold.
-/
namespace Go.Proofs.YtngbjdaaogbjmaaGreat
open Go.RowKit

/-- Families in memory: a slice of slices of masks. -/
def FamsAt (w : World) (v : Value) (xss : List (List Nat)) : Prop := RowsAt SetsAt w v xss
theorem FamsAt.kept {w w' : World} {v : Value} {xss : List (List Nat)} (h : FamsAt w v xss) (hk : Kept w w') : FamsAt w' v xss :=
  RowsAt.kept (fun _ _ _ _ h k => h.kept k) h hk
/-- Families of the call's own, their rows too. -/
def OwnFams (w : World) (B : Nat) (v : Value) (xss : List (List Nat)) : Prop :=
  ∃ us : List Value, us.length = xss.length ∧ w.ownsRow B 27 1 v xss.length us ∧ xss.length ≤ 140737488355328 ∧ ∀ i (h : i < us.length) (h' : i < xss.length), OwnSets w 0 us[i] xss[i]
theorem OwnFams.at {w : World} {B : Nat} {v : Value} {xss : List (List Nat)} (h : OwnFams w B v xss) : FamsAt w v xss := by
  obtain ⟨us, h1, ⟨h2, h3⟩, h4, h5⟩ := h
  rcases h3 with ⟨rfl, h6⟩ | ⟨g, cap, cur, rfl, h6, h7, h8, h9, h10, h11⟩
  · have : xss = [] := List.eq_nil_of_length_eq_zero h6
    subst this
    exact ⟨none, 0, rfl, ⟨by simp, fun _ => rfl⟩, by simp, fun i h => by simp at h⟩
  · refine ⟨_, cap, rfl, ⟨h8, fun h => by cases h⟩, h4, fun i hi => ⟨g, 0, us[i]'(by omega), rfl, ?_, (h5 i (by omega) hi).sets⟩⟩
    have e1 : (cur.toList.take (xss.length * 1))[i]? = us[i]? := by rw [h11]
    rw [List.getElem?_take_of_lt (by omega)] at e1
    simp only [World.cell?, h7, Nat.zero_add]
    simpa [h1, hi] using e1
theorem OwnFams.kept {w w' : World} {B : Nat} {v : Value} {xss : List (List Nat)} (h : OwnFams w B v xss) (hk : Kept w w') : OwnFams w' B v xss := by
  obtain ⟨us, h1, h2, h3, h4⟩ := h
  exact ⟨us, h1, own_kept h2 hk, h3, fun i h h' => (h4 i h h').kept hk⟩
theorem OwnFams.nil (w : World) (B : Nat) : OwnFams w B (.slice none 0 0) [] := ⟨[], rfl, World.ownsRow_nil _ _ _ _, by simp, fun i h => by simp at h⟩
/-- A row of one type stays while a row of another type is written. -/
theorem own_tag {w w' : World} {B : Nat} {e e' : TypeId} {size size' n n' B' : Nat} {v v' : Value} {xs xs' : List Value} (h : w.ownsRow B e size v n xs) (h' : w.ownsRow B' e' size' v' n' xs') (hne : e ≠ e')
    (hg : ∀ k, k < w.heap.size → some k ≠ v'.ownBlock → w'.heap[k]? = w.heap[k]?) : w'.ownsRow B e size v n xs := by
  obtain ⟨h1, h2⟩ := h
  refine ⟨h1, h2.imp id ?_⟩
  rintro ⟨g, cap, cur, rfl, h5, h6, h7⟩
  refine ⟨g, cap, cur, rfl, h5, (hg g (heap_lt h6) ?_).trans h6, h7⟩
  intro e
  obtain ⟨_, ⟨rfl, _⟩ | ⟨g2, cap2, cur2, rfl, _, h8, _⟩⟩ := h'
  · cases e
  · cases e
    rw [h8] at h6
    cases h6
    exact hne rfl
theorem OwnSets.tag {w w' : World} {B : Nat} {e' : TypeId} {size' n' B' : Nat} {v v' : Value} {ns : List Nat} {xs' : List Value} (h : OwnSets w B v ns) (h' : w.ownsRow B' e' size' v' n' xs') (hne : 3 ≠ e')
    (hg : ∀ k, k < w.heap.size → some k ≠ v'.ownBlock → w'.heap[k]? = w.heap[k]?) : OwnSets w' B v ns := ⟨⟨own_tag h.1.1 h' hne hg, h.1.2⟩, h.2⟩
/-- append of one family. -/
theorem app_fam {ops : Array Oper} {rest : List Oper} {o : Oper} {a : Act} {Q : Exit → Act → World → Prop} {w : World} (hgd : o.guard = none) (s x : Operand)
    (ho : o.op = .call { callee := .builtin .append, args := #[s, x], argTypes := #[134, 134] }) (B : Nat) (v : Value) (xss : List (List Nat)) (hs : a.eval s = v) (hown : OwnFams w B v xss)
    (ad : Addr) (u : Value) (ys : List Nat) (hx : a.eval x = .slice (some ad) 1 1) (hc : w.cell? ad = some u) (hu : OwnSets w 0 u ys) (hl : xss.length < 1000000) (hB : B ≤ w.heap.size)
    (h : ∀ v' w', OwnFams w' B v' (xss ++ [ys]) → w.grownBy w' v.ownBlock → Below B w w' → wpList Tryz.prog ops Q rest (a.put o.dst v') w') : wpList Tryz.prog ops Q (o :: rest) a w := by
  obtain ⟨us, h1, h2, h3, h4⟩ := hown
  obtain ⟨ua, un, uc, rfl⟩ := hu.1.ints.shape
  refine app_one 134 27 _ 24 info_ints Tryz.underlying134 rfl hgd s x ho B v us hs (by rw [h1]; exact h2) ad _ hx hc rfl (by omega) (by simp [maxLen]; omega) hB ?_
  intro v' w' h5 h6 h7
  refine h v' w' ⟨us ++ [.slice ua un uc], by simp [h1], by simpa [h1] using h5, by simp; omega, ?_⟩ h6 h7
  intro i hi hi'
  by_cases hik : i < us.length
  · rw [List.getElem_append_left hik, List.getElem_append_left (by omega)]
    exact (h4 i hik (by omega)).tag h2 (by decide) (fun k hk hne => h6.block k hk hne)
  · have e : i = us.length := by simp at hi; omega
    subst e
    rw [List.getElem_append_right (Nat.le_refl _), List.getElem_append_right (by omega)]
    simp only [Nat.sub_self, h1, List.getElem_cons_zero]
    exact hu.tag h2 (by decide) (fun k hk hne => h6.block k hk hne)

def foldK (op : List Nat → List Nat → Option (List Nat)) (first : List Nat) (args : List (List Nat)) : Option (List Nat) := args.foldlM op first
theorem foldK_snoc (op : List Nat → List Nat → Option (List Nat)) (first : List Nat) (args : List (List Nat)) (k : Nat) (h : k < args.length) : foldK op first (args.take (k + 1)) = (foldK op first (args.take k)).bind fun l => op l args[k] := by
  unfold foldK
  rw [List.take_succ_eq_append_getElem h, List.foldlM_append]
  simp [Option.bind_eq_bind]
theorem foldK_none (op : List Nat → List Nat → Option (List Nat)) (first : List Nat) (args : List (List Nat)) (k : Nat) (h : foldK op first (args.take k) = none) : foldK op first args = none := by
  unfold foldK at *
  rw [← List.take_append_drop k args, List.foldlM_append, h]; rfl

/-- A function value that joins two lists of sets. -/
def Joins (g : Nat) (op : List Nat → List Nat → Option (List Nat)) : Prop :=
  ∀ (a b : List Nat) (va vb : Value) (w : World), SetsAt w va a → SetsAt w vb b → Calls Tryz.prog g #[va, vb] w fun e w' => LRes w' w.heap.size e (op a b) ∧ Kept w w'
end Go.Proofs.YtngbjdaaogbjmaaGreat

/-
  Walks: bottomup.vote.
-/
namespace Go.Proofs.YtngbjdaaogbjmaaGreat
open Go.RowKit

theorem OwnFams.mono {w : World} {B B' : Nat} {v : Value} {xss : List (List Nat)} (h : OwnFams w B v xss) (hb : B' ≤ B) : OwnFams w B' v xss := by
  obtain ⟨us, h1, h2, h3, h4⟩ := h
  exact ⟨us, h1, own_mono h2 hb, h3, h4⟩
theorem OwnSets.one (w : World) (B : Nat) (s : Nat) (hs : Mk s) (hB : B ≤ w.heap.size) : OwnSets (w.alloc (.cells #[.int .i64 s] 3)) B (.slice (some ⟨w.heap.size, 0, none⟩) 1 1) [s] :=
  ⟨⟨⟨by simp, .inr ⟨w.heap.size, 1, #[.int .i64 s], rfl, hB, heap_alloc_new w _, Nat.le_refl _, by unfold maxLen; omega, by simp, by simp⟩⟩, by simp⟩, by simpa using hs⟩
theorem OwnFams.one {w : World} {B : Nat} {u : Value} {ns : List Nat} (hu : OwnSets w 0 u ns) (hB : B ≤ w.heap.size) : OwnFams (w.alloc (.cells #[u] 27)) B (.slice (some ⟨w.heap.size, 0, none⟩) 1 1) [ns] :=
  ⟨[u], rfl, ⟨by simp, .inr ⟨w.heap.size, 1, #[u], rfl, hB, heap_alloc_new w _, Nat.le_refl _, by unfold maxLen; omega, by simp, by simp⟩⟩, by simp, fun i h h' => by
    have e : i = 0 := by simp at h; omega
    subst e
    exact hu.kept ((Kept.refl _).alloc _)⟩
theorem OwnSets.nils (w : World) (B : Nat) : OwnSets w B (.slice none 0 0) [] := ⟨OwnInts.nil _ _, by simp⟩
/-- A row of families whose place i is replaced. -/
theorem OwnFams.store {w : World} {B g n cap : Nat} {xss : List (List Nat)} (h : OwnFams w B (.slice (some ⟨g, 0, none⟩) n cap) xss) (hn : n = xss.length) (i : Nat) {u : Value} {ys : List Nat} (hu : OwnSets w 0 u ys) :
    OwnFams (w.setCell ⟨g, i, none⟩ u) B (.slice (some ⟨g, 0, none⟩) n cap) (xss.set i ys) := by
  obtain ⟨us, h1, h2, h3, h4⟩ := h
  subst hn
  have h5 := h2.stored i u
  refine ⟨us.set i u, by simp [h1], by simpa using h5.1, by simpa using h3, fun j hj hj' => ?_⟩
  have hg : ∀ k, k < w.heap.size → some k ≠ (Value.slice (some ⟨g, 0, none⟩) xss.length cap).ownBlock → (w.setCell ⟨g, i, none⟩ u).heap[k]? = w.heap[k]? := fun k hk hne => h5.2.block k hk hne
  by_cases e : i = j
  · subst e
    rw [List.getElem_set_self, List.getElem_set_self]
    exact hu.tag h2 (by decide) hg
  · rw [List.getElem_set_ne e, List.getElem_set_ne e]
    exact (h4 j (by simpa using hj) (by simpa using hj')).tag h2 (by decide) hg
theorem make_fam {ops : Array Oper} {rest : List Oper} {o : Oper} {a : Act} {Q : Exit → Act → World → Prop} {w : World} (hg : o.guard = none) (l c : Operand)
    (hop : o.op = Op.makeSlice 134 l c) (n : Nat) (hl : a.eval l = .int .i64 n) (hc : a.eval c = .int .i64 n) (hb : n ≤ 1000000)
    (hK : ∀ w', OwnFams w' w.heap.size (.slice (some ⟨w.heap.size, 0, none⟩) n n) (List.replicate n []) → Kept w w' → w.heap.size < w'.heap.size → wpList Tryz.prog ops Q rest (a.put o.dst (.slice (some ⟨w.heap.size, 0, none⟩) n n)) w') : wpList Tryz.prog ops Q (o :: rest) a w := by
  obtain ⟨i0, hi0, hz0, hz1, hz2⟩ := info_parts info_ints
  refine wpList_make_full w hg l c 134 hop w.heap.size 27 i0 _ 1 Tryz.underlying134 hi0 hz0 hz1 .i64 .i64 _ _ n hl hc rfl rfl (by rw [hz2]; omega) (by unfold maxLen; omega) (Nat.le_refl _) ?_
  intro w' h1 h2
  rw [made_one _ rfl n] at h1
  refine hK w' ⟨List.replicate n (.slice none 0 0), by simp, by simpa using h1, by simp; omega, fun i h h' => by simp [OwnSets.nils]⟩ ⟨h2.os, h2.tape, h2.output, h2.size, fun k hk => h2.block k hk (by simp)⟩ ?_
  exact (h1.lt _ rfl).2
theorem OwnFams.cell {w : World} {B g n cap : Nat} {xss : List (List Nat)} (h : OwnFams w B (.slice (some ⟨g, 0, none⟩) n cap) xss) (i : Nat) (hi : i < xss.length) : ∃ u, w.cell? ⟨g, i, none⟩ = some u ∧ OwnSets w 0 u xss[i] := by
  obtain ⟨us, h1, h2, h3, h4⟩ := h
  refine ⟨us[i]'(by omega), ?_, h4 i (by omega) hi⟩
  obtain ⟨h5, h6⟩ := h2
  rcases h6 with ⟨h6, _⟩ | ⟨g', cap', cur, h6, _, h7, h8, h9, h10, h11⟩
  · cases h6
  · cases h6
    have e1 : (cur.toList.take (xss.length * 1))[i]? = us[i]? := by rw [h11]
    rw [List.getElem?_take_of_lt (by omega)] at e1
    simp only [World.cell?, h7]
    simpa [h1, hi] using e1
theorem OwnFams.free {w : World} {B g n cap : Nat} {xss : List (List Nat)} (h : OwnFams w B (.slice (some ⟨g, 0, none⟩) n cap) xss) (i : Nat) : w.frozen? ⟨g, i, none⟩ = false := by
  obtain ⟨us, h1, ⟨h2, h3⟩, _⟩ := h
  rcases h3 with ⟨h3, _⟩ | ⟨g', cap', cur, h3, _, h4, _⟩
  · cases h3
  · cases h3
    simp [World.frozen?, h4]
theorem OwnFams.shape {w : World} {B : Nat} {v : Value} {xss : List (List Nat)} (h : OwnFams w B v xss) (h0 : xss ≠ []) : ∃ g cap, v = .slice (some ⟨g, 0, none⟩) xss.length cap ∧ B ≤ g ∧ g < w.heap.size ∧ xss.length ≤ cap := by
  obtain ⟨us, h1, ⟨h2, h3⟩, _⟩ := h
  rcases h3 with ⟨_, h3⟩ | ⟨g, cap, cur, rfl, h4, h5, h6, _⟩
  · exact absurd (List.eq_nil_of_length_eq_zero h3) h0
  · exact ⟨g, cap, rfl, h4, heap_lt h5, h6⟩

/-- One place of the next row. -/
def nextAt (arg : List Nat) (t : List (List Nat)) (m : Nat) : Option (List Nat) := (productK arg (t.getD m [])).bind fun x => plusK x (t.getD (m + 1) [])
def voteUp (arg : List Nat) (t : List (List Nat)) : Nat → Option (List (List Nat))
  | 0 => some [[0]]
  | m + 1 => (voteUp arg t m).bind fun acc => (nextAt arg t m).map fun x => acc ++ [x]
def voteDown (k : Nat) (args : List (List Nat)) : Nat → List (List Nat) → Option (List (List Nat))
  | 0, t => some t
  | q + 1, t => (voteUp (args.getD q []) t k).bind (voteDown k args q)
/-- The sets of which at least k arguments are true. -/
def voteK (args : List (List Nat)) (k : Nat) : Option (List Nat) := (voteDown k args args.length ([0] :: List.replicate k [])).map fun t => t.getD k []
theorem len_voteUp (arg : List Nat) (t : List (List Nat)) : ∀ m acc, voteUp arg t m = some acc → acc.length = m + 1 := by
  intro m
  induction m with
  | zero => intro acc h; cases h; rfl
  | succ m ih =>
    intro acc h
    unfold voteUp at h
    cases h1 : voteUp arg t m with
    | none => rw [h1] at h; cases h
    | some a =>
      rw [h1] at h
      simp only [Option.bind_some] at h
      cases h2 : nextAt arg t m with
      | none => rw [h2] at h; cases h
      | some x => rw [h2] at h; cases h; simp [ih a h1]
theorem voteUp_none (arg : List Nat) (t : List (List Nat)) (m : Nat) (h : voteUp arg t m = none) : ∀ k, m ≤ k → voteUp arg t k = none := by
  intro k hk
  induction k with
  | zero => have : m = 0 := by omega
            subst this; exact h
  | succ k ih =>
    by_cases e : m = k + 1
    · subst e; exact h
    · unfold voteUp; rw [ih (by omega)]; rfl
end Go.Proofs.YtngbjdaaogbjmaaGreat

/-
  Walks: bottomup.vote.
-/
namespace Go.Proofs.YtngbjdaaogbjmaaGreat
open Go.RowKit

theorem wrapT (m : Nat) (h : m ≤ 100000) : IntKind.i64.wrap (m : Int) = (m : Int) := IntWalk.i64_in _ (by omega)
theorem wrapS (m : Nat) (h : m ≤ 100000) : IntKind.i64.wrap ((m : Int) + 1 - 1) = (m : Int) := by
  rw [show (m : Int) + 1 - 1 = (m : Int) by omega]; exact wrapT m h
end Go.Proofs.YtngbjdaaogbjmaaGreat

/-
  Walks: bottomup.node.
-/
namespace Go.Proofs.YtngbjdaaogbjmaaGreat
open Go.RowKit

def nodeK (kind : Int) (k : Int) (fams : List (List Nat)) : Option (List Nat) :=
  if kind = 0 then (if k = 1 then some [0] else some []) else if kind = 3 then foldK plusK [] fams else if kind = 2 then foldK productK [0] fams else voteK fams k.toNat

end Go.Proofs.YtngbjdaaogbjmaaGreat

/-
  Walks: bottomup.Families.
-/
namespace Go.Proofs.YtngbjdaaogbjmaaGreat
open Go.RowKit

def famArg (V : Nat) (out : List (List Nat)) (a : Int) : List Nat := if a < V then [2 ^ a.toNat] else out.getD (a - V).toNat []
def famStep (V : Nat) (mark : List Bool) (nodes : List Nd) (out : List (List Nat)) (i : Nat) : Option (List (List Nat)) :=
  if mark.getD (V + i) false then (nodeK (nodes.getD i noNd).kind (nodes.getD i noNd).k ((nodes.getD i noNd).args.map (famArg V out))).map fun l => out.set i l else some out
def famsUp (V : Nat) (mark : List Bool) (nodes : List Nd) : Nat → Option (List (List Nat))
  | 0 => some (List.replicate nodes.length [])
  | k + 1 => (famsUp V mark nodes k).bind fun out => famStep V mark nodes out k
/-- The families of all needed nodes. -/
def famsK (V T : Nat) (nodes : List Nd) : Option (List (List Nat)) := famsUp V (belowK V T nodes) nodes nodes.length
theorem famsUp_none (V : Nat) (mark : List Bool) (nodes : List Nd) (m : Nat) (h : famsUp V mark nodes m = none) : ∀ k, m ≤ k → famsUp V mark nodes k = none := by
  intro k hk
  induction k with
  | zero => have : m = 0 := by omega
            subst this; exact h
  | succ k ih =>
    by_cases e : m = k + 1
    · subst e; exact h
    · unfold famsUp; rw [ih (by omega)]; rfl
theorem len_famsUp (V : Nat) (mark : List Bool) (nodes : List Nd) : ∀ k out, famsUp V mark nodes k = some out → out.length = nodes.length := by
  intro k
  induction k with
  | zero => intro out h; cases h; simp
  | succ k ih =>
    intro out h
    unfold famsUp at h
    cases h1 : famsUp V mark nodes k with
    | none => rw [h1] at h; cases h
    | some o =>
      rw [h1] at h
      simp only [Option.bind_some, famStep] at h
      split at h
      · cases h2 : nodeK (nodes.getD k noNd).kind (nodes.getD k noNd).k ((nodes.getD k noNd).args.map (famArg V o)) with
        | none => rw [h2] at h; cases h
        | some l => rw [h2] at h; cases h; simp [ih o h1]
      · cases h; exact ih _ h1
theorem mem_kindsUp (V : Nat) (mark : List Bool) (nodes : List Nd) (i : Nat) (h : mark.getD (V + i) false = true) : ∀ k, i < k → (nodes.getD i noNd).kind ∈ kindsUp V mark nodes k := by
  intro k hk
  induction k with
  | zero => omega
  | succ k ih =>
    unfold kindsUp
    by_cases e : i = k
    · subst e; rw [h]; simp
    · split
      · exact List.mem_append.2 (.inl (ih (by omega)))
      · exact ih (by omega)
theorem kind_mono {V T : Nat} {f : Fm} (hok : Ok f V T) (hs : synK V T f = true) (i : Nat) (hi : i < f.nodes.length) (h : (belowK V T f.nodes).getD (V + i) false = true) :
    f.nodes[i].kind = 0 ∨ f.nodes[i].kind = 2 ∨ f.nodes[i].kind = 3 ∨ f.nodes[i].kind = 4 := by
  have h1 := mem_kindsUp V _ f.nodes i h f.nodes.length hi
  unfold synK monoK at hs
  have h2 := List.all_eq_true.1 hs _ h1
  rw [show f.nodes.getD i noNd = f.nodes[i] by simp [List.getD_eq_getElem?_getD, hi]] at h2
  have h3 := hok.kind i hi
  simp at h2
  omega
def FRes (w' : World) (B : Nat) (e : Ending) (r : Option (List (List Nat))) : Prop :=
  match r with
  | some l => ∃ v, e = .returned (.tuple #[v, .nilIface]) ∧ OwnFams w' B v l
  | none => e = .returned (.tuple #[.slice none 0 0, errV 4])
theorem shl_mk (Y : Nat) (h : Y < 24) : wrap64 ((2 : Int) ^ Y) = ((2 ^ Y : Nat) : Int) ∧ Mk (2 ^ Y) := by
  have h1 : (2 : Nat) ^ Y < 2 ^ 24 := Nat.pow_lt_pow_right (by omega) h
  refine ⟨?_, h1⟩
  rw [show (2 : Int) ^ Y = ((2 ^ Y : Nat) : Int) by simp]
  generalize (2 : Nat) ^ Y = z at h1 ⊢
  unfold wrap64; omega
theorem OwnSets.shl (w : World) (Y : Nat) (h : Y < 24) : OwnSets (w.alloc (.cells #[.int .i64 (wrap64 ((2 : Int) ^ Y))] 3)) 0 (.slice (some ⟨w.heap.size, 0, none⟩) 1 1) [2 ^ Y] := by
  rw [(shl_mk Y h).1]
  exact OwnSets.one w 0 (2 ^ Y) (shl_mk Y h).2 (Nat.zero_le _)

end Go.Proofs.YtngbjdaaogbjmaaGreat

/-
  Plain: minimal families are the ones of the upward closed sets of masks; the closure of Plus and Product.
-/
namespace Go.Proofs.YtngbjdaaogbjmaaGreat

theorem subN_iff {a b : Nat} : subN a b = true ↔ ∀ i, a.testBit i = true → b.testBit i = true := by
  unfold subN sdiff
  rw [beq_iff_eq]
  constructor
  · intro h i hi
    have h1 : (a ^^^ (a &&& b)).testBit i = false := by rw [h]; simp
    simp [hi] at h1
    exact h1
  · intro h
    apply Nat.eq_of_testBit_eq
    intro i
    simp only [Nat.testBit_xor, Nat.testBit_and, Nat.zero_testBit]
    cases ha : a.testBit i with
    | false => simp
    | true => simp [h i ha]
theorem subN_refl (a : Nat) : subN a a = true := subN_iff.2 fun _ h => h
theorem subN_tr {a b c : Nat} (h1 : subN a b = true) (h2 : subN b c = true) : subN a c = true := subN_iff.2 fun i h => subN_iff.1 h2 i (subN_iff.1 h1 i h)
theorem subN_half {a b : Nat} (h : subN a b = true) : a % 2 ≤ b % 2 ∧ subN (a / 2) (b / 2) = true := by
  have h' := subN_iff.1 h
  refine ⟨?_, subN_iff.2 fun i hi => ?_⟩
  · have h0 := h' 0
    simp only [Nat.testBit_zero, decide_eq_true_eq] at h0
    omega
  · have h0 := h' (i + 1)
    simp only [Nat.testBit_succ] at h0
    exact h0 hi
theorem pc_sub (n : Nat) : ∀ a b, b ≤ n → subN a b = true → pc a ≤ pc b ∧ (pc a = pc b → a = b) := by
  induction n using Nat.strongRecOn with
  | ind n ih =>
    intro a b hb h
    by_cases h0 : b = 0
    · subst h0
      have : a = 0 := by
        apply Nat.eq_of_testBit_eq
        intro i
        cases ha : a.testBit i with
        | false => simp
        | true => have := subN_iff.1 h i ha; simp at this
      subst this
      exact ⟨Nat.le_refl _, fun _ => rfl⟩
    · obtain ⟨h1, h2⟩ := subN_half h
      have := ih (b / 2) (by omega) (a / 2) (b / 2) (Nat.le_refl _) h2
      rw [pc_one a, pc_one b]
      refine ⟨by omega, fun he => ?_⟩
      have e2 : pc (a / 2) = pc (b / 2) := by omega
      have := this.2 e2
      omega
theorem subN_le {a b : Nat} (h : subN a b = true) : pc a ≤ pc b ∧ (pc a = pc b → a = b) := pc_sub b a b (Nat.le_refl _) h
theorem subN_anti {a b : Nat} (h1 : subN a b = true) (h2 : subN b a = true) : a = b := by
  have := subN_le h1; have := subN_le h2; exact (subN_le h1).2 (by omega)
theorem not_lt_sub {a b : Nat} (h : subN a b = true) (h2 : ltK b a) : False := by
  have h1 := subN_le h
  unfold ltK at h2
  rcases h2 with h2 | h2
  · omega
  · have := h1.2 (by omega); omega

theorem mem_foldN (l : List Nat) : ∀ out x, (out ++ l).Pairwise ltK → (x ∈ l.foldl keepN out ↔ x ∈ out ∨ x ∈ l ∧ ∀ y, y ∈ out ∨ y ∈ l → subN y x = true → y = x) := by
  induction l with
  | nil => intro out x _; simp
  | cons s l ih =>
    intro out x hp
    have hp' := List.pairwise_append.1 hp
    have hs := List.pairwise_cons.1 hp'.2.1
    show x ∈ l.foldl keepN (keepN out s) ↔ _
    by_cases hk : out.any (fun t => subN t s) = true
    · rw [show keepN out s = out from if_pos hk]
      obtain ⟨t, ht, hts⟩ := List.any_eq_true.1 hk
      rw [ih out x (List.pairwise_append.2 ⟨hp'.1, hs.2, fun a ha b hb => hp'.2.2 a ha b (List.mem_cons_of_mem _ hb)⟩)]
      constructor
      · rintro (h | ⟨h1, h2⟩)
        · exact .inl h
        · refine .inr ⟨List.mem_cons_of_mem _ h1, ?_⟩
          rintro y (hy | hy) hyx
          · exact h2 y (.inl hy) hyx
          · rcases List.mem_cons.1 hy with e | e
            · subst e
              have := h2 t (.inl ht) (subN_tr hts hyx)
              subst this
              exact absurd (hp'.2.2 t ht t (List.mem_cons_of_mem _ h1)) (ltK_irr t)
            · exact h2 y (.inr e) hyx
      · rintro (h | ⟨h1, h2⟩)
        · exact .inl h
        · rcases List.mem_cons.1 h1 with e | e
          · subst e
            have := h2 t (.inl ht) hts
            subst this
            exact absurd (hp'.2.2 t ht t (List.mem_cons_self ..)) (ltK_irr t)
          · exact .inr ⟨e, fun y hy => h2 y (hy.imp id (List.mem_cons_of_mem _))⟩
    · rw [show keepN out s = out ++ [s] from if_neg hk]
      rw [ih (out ++ [s]) x (by simpa using hp)]
      have hk' : ∀ t ∈ out, ¬ subN t s = true := fun t ht h => hk (List.any_eq_true.2 ⟨t, ht, h⟩)
      have ms : ∀ z, z ∈ out ++ [s] ↔ z ∈ out ∨ z = s := fun z => by simp
      simp only [ms, List.mem_cons]
      constructor
      · rintro ((h | h) | ⟨h1, h2⟩)
        · exact .inl h
        · subst h
          refine .inr ⟨.inl rfl, ?_⟩
          rintro y (hy | hy | hy) hyx
          · exact absurd hyx (hk' y hy)
          · exact hy
          · exact (not_lt_sub hyx (hs.1 y hy)).elim
        · refine .inr ⟨.inr h1, ?_⟩
          rintro y (hy | hy | hy) hyx
          · exact h2 y (.inl (.inl hy)) hyx
          · exact h2 y (.inl (.inr hy)) hyx
          · exact h2 y (.inr hy) hyx
      · rintro (h | ⟨h1 | h1, h2⟩)
        · exact .inl (.inl h)
        · exact .inl (.inr h1)
        · refine .inr ⟨h1, ?_⟩
          rintro y ((hy | hy) | hy) hyx
          · exact h2 y (.inl hy) hyx
          · exact h2 y (.inr (.inl hy)) hyx
          · exact h2 y (.inr (.inr hy)) hyx
theorem pair_foldN (l : List Nat) : ∀ out, (out ++ l).Pairwise ltK → (l.foldl keepN out).Pairwise ltK := by
  induction l with
  | nil => intro out h; simpa using h
  | cons s l ih =>
    intro out h
    show (l.foldl keepN (keepN out s)).Pairwise ltK
    by_cases hk : out.any (fun t => subN t s) = true
    · rw [show keepN out s = out from if_pos hk]
      refine ih out (List.Pairwise.sublist ?_ h)
      exact List.Sublist.append_left (List.sublist_cons_self s l) out
    · rw [show keepN out s = out ++ [s] from if_neg hk]
      exact ih _ (by simpa using h)
theorem mem_minK_iff (l : List Nat) (x : Nat) : x ∈ minK l ↔ x ∈ l ∧ ∀ y ∈ l, subN y x = true → y = x := by
  unfold minK minN
  rw [mem_foldN (sortK l) [] x (by simpa using pair_sortK l)]
  simp [mem_sortK]
theorem pair_minK (l : List Nat) : (minK l).Pairwise ltK := pair_foldN _ [] (by simpa using pair_sortK l)

/-- s contains a set of the list. -/
def up (l : List Nat) (s : Nat) : Prop := ∃ t ∈ l, subN t s = true
theorem exists_min (l : List Nat) : ∀ (n : Nat) (t : Nat), pc t ≤ n → t ∈ l → ∃ y ∈ minK l, subN y t = true := by
  intro n
  induction n with
  | zero =>
    intro t hn ht
    refine ⟨t, (mem_minK_iff l t).2 ⟨ht, fun y hy h => ?_⟩, subN_refl t⟩
    have := subN_le h
    exact this.2 (by omega)
  | succ n ih =>
    intro t hn ht
    by_cases h : ∃ y ∈ l, subN y t = true ∧ y ≠ t
    · obtain ⟨y, hy, h1, h2⟩ := h
      have := subN_le h1
      have h3 : pc y ≤ n := by
        by_cases e : pc y = pc t
        · exact absurd (this.2 e) h2
        · omega
      obtain ⟨z, hz, h4⟩ := ih y h3 hy
      exact ⟨z, hz, subN_tr h4 h1⟩
    · exact ⟨t, (mem_minK_iff l t).2 ⟨ht, fun y hy h1 => Classical.byContradiction fun h2 => h ⟨y, hy, h1, h2⟩⟩, subN_refl t⟩
theorem up_minK (l : List Nat) (s : Nat) : up (minK l) s ↔ up l s := by
  constructor
  · rintro ⟨t, ht, h⟩; exact ⟨t, mem_minK ht, h⟩
  · rintro ⟨t, ht, h⟩
    obtain ⟨y, hy, h2⟩ := exists_min l _ t (Nat.le_refl _) ht
    exact ⟨y, hy, subN_tr h2 h⟩
theorem minK_mem_of_up {l r : List Nat} (h : ∀ s, up l s ↔ up r s) {x : Nat} (hx : x ∈ minK l) : x ∈ minK r := by
  obtain ⟨h1, h2⟩ := (mem_minK_iff l x).1 hx
  obtain ⟨y, hy, hyx⟩ := (h x).1 ⟨x, h1, subN_refl x⟩
  obtain ⟨z, hz, hzy⟩ := (h y).2 ⟨y, hy, subN_refl y⟩
  have e1 := h2 z hz (subN_tr hzy hyx)
  subst e1
  have e2 : y = z := subN_anti hyx hzy
  subst e2
  refine (mem_minK_iff r y).2 ⟨hy, fun w hw hwy => ?_⟩
  obtain ⟨v, hv, hvw⟩ := (h w).2 ⟨w, hw, subN_refl w⟩
  have e3 := h2 v hv (subN_tr hvw hwy)
  subst e3
  exact subN_anti hwy hvw
/-- The minimal sets are those of the closure. -/
theorem minK_of_up {l r : List Nat} (h : ∀ s, up l s ↔ up r s) : minK l = minK r :=
  pair_unique ltK ltK_irr ltK_tr _ _ (pair_minK l) (pair_minK r) fun _ => ⟨fun hx => minK_mem_of_up h hx, fun hx => minK_mem_of_up (fun s => (h s).symm) hx⟩
/-- The same over masks alone. -/
theorem minK_of_upMk {l r : List Nat} (hl : ∀ n ∈ l, Mk n) (hr : ∀ n ∈ r, Mk n) (h : ∀ s, Mk s → (up l s ↔ up r s)) : minK l = minK r := by
  have key : ∀ l : List Nat, (∀ n ∈ l, Mk n) → ∀ s, up l s ↔ up l (s % 16777216) := by
    intro l hl s
    have e : ∀ t, Mk t → (subN t s = true ↔ subN t (s % 16777216) = true) := by
      intro t ht
      rw [subN_iff, subN_iff]
      refine ⟨fun h i hi => ?_, fun h i hi => ?_⟩
      · have hi24 : i < 24 := by
          rcases Nat.lt_or_ge i 24 with h9 | h9
          · exact h9
          · rw [Nat.testBit_lt_two_pow (Nat.lt_of_lt_of_le (show t < 2 ^ 24 from ht) (Nat.pow_le_pow_right (by omega) h9))] at hi; cases hi
        rw [show (16777216 : Nat) = 2 ^ 24 from rfl, Nat.testBit_mod_two_pow]
        simp [hi24, h i hi]
      · have h1 := h i hi
        rw [show (16777216 : Nat) = 2 ^ 24 from rfl, Nat.testBit_mod_two_pow] at h1
        simp at h1
        exact h1.2
    constructor
    · rintro ⟨t, ht, h⟩; exact ⟨t, ht, (e t (hl t ht)).1 h⟩
    · rintro ⟨t, ht, h⟩; exact ⟨t, ht, (e t (hl t ht)).2 h⟩
  refine minK_of_up fun s => ?_
  rw [key l hl s, key r hr s]
  exact h _ (show s % 16777216 < 16777216 by omega)
/-- A family as it is stored: sorted, no set in another one. -/
def Can (l : List Nat) : Prop := minK l = l
theorem can_minK (l : List Nat) : Can (minK l) := minK_of_up fun s => up_minK l s
theorem can_eq {l r : List Nat} (hl : Can l) (hr : Can r) (h : ∀ s, up l s ↔ up r s) : l = r := by
  have := minK_of_up h
  rw [hl, hr] at this
  exact this
theorem can_eqMk {l r : List Nat} (hl : Can l) (hr : Can r) (ml : ∀ n ∈ l, Mk n) (mr : ∀ n ∈ r, Mk n) (h : ∀ s, Mk s → (up l s ↔ up r s)) : l = r := by
  have := minK_of_upMk ml mr h
  rw [hl, hr] at this
  exact this
theorem up_nil (s : Nat) : ¬ up [] s := by rintro ⟨t, h, _⟩; cases h
theorem zero_sub (s : Nat) : subN 0 s = true := subN_iff.2 fun i h => by simp at h
theorem up_zero (s : Nat) : up [0] s := ⟨0, by simp, zero_sub s⟩
theorem can_nil : Can [] := rfl
theorem can_one (x : Nat) : Can [x] := by
  have h1 : ∀ y, y ∈ minK [x] ↔ y ∈ [x] := fun y => by rw [mem_minK_iff]; simp; intro h _; exact h.symm
  exact pair_unique ltK ltK_irr ltK_tr _ _ (pair_minK [x]) (by simp) h1
theorem up_append (a b : List Nat) (s : Nat) : up (a ++ b) s ↔ up a s ∨ up b s := by
  unfold up
  constructor
  · rintro ⟨t, h, h2⟩
    rcases List.mem_append.1 h with h | h
    · exact .inl ⟨t, h, h2⟩
    · exact .inr ⟨t, h, h2⟩
  · rintro (⟨t, h, h2⟩ | ⟨t, h, h2⟩)
    · exact ⟨t, List.mem_append.2 (.inl h), h2⟩
    · exact ⟨t, List.mem_append.2 (.inr h), h2⟩
theorem or_sub (x y s : Nat) : subN (x ||| y) s = true ↔ subN x s = true ∧ subN y s = true := by
  rw [subN_iff, subN_iff, subN_iff]
  constructor
  · intro h; exact ⟨fun i hi => h i (by simp [hi]), fun i hi => h i (by simp [hi])⟩
  · rintro ⟨h1, h2⟩ i hi
    simp at hi
    rcases hi with hi | hi
    · exact h1 i hi
    · exact h2 i hi
theorem up_allU (a b : List Nat) (s : Nat) : up (allU a b) s ↔ up a s ∧ up b s := by
  unfold up
  constructor
  · rintro ⟨t, h, h2⟩
    obtain ⟨x, hx, y, hy, rfl⟩ := (mem_allU a b t).1 h
    have := (or_sub x y s).1 h2
    exact ⟨⟨x, hx, this.1⟩, ⟨y, hy, this.2⟩⟩
  · rintro ⟨⟨x, hx, h1⟩, ⟨y, hy, h2⟩⟩
    exact ⟨x ||| y, (mem_allU a b _).2 ⟨x, hx, y, hy, rfl⟩, (or_sub x y s).2 ⟨h1, h2⟩⟩
theorem plusK_some {a b l : List Nat} (h : plusK a b = some l) : l = minK (a ++ b) ∧ l.length ≤ 1024 := by
  unfold plusK at h
  split at h
  · split at h
    · cases h; exact ⟨rfl, by assumption⟩
    · cases h
  · cases h
theorem productK_some {a b l : List Nat} (h : productK a b = some l) : l = minK (allU (minK a) (minK b)) ∧ l.length ≤ 1024 := by
  unfold productK at h
  split at h
  · split at h
    · cases h; exact ⟨rfl, by assumption⟩
    · cases h
  · cases h
theorem up_plusK {a b l : List Nat} (h : plusK a b = some l) (s : Nat) : up l s ↔ up a s ∨ up b s := by
  rw [(plusK_some h).1, up_minK, up_append]
theorem up_productK {a b l : List Nat} (h : productK a b = some l) (s : Nat) : up l s ↔ up a s ∧ up b s := by
  rw [(productK_some h).1, up_minK, up_allU, up_minK, up_minK]
theorem can_plusK {a b l : List Nat} (h : plusK a b = some l) : Can l := by rw [(plusK_some h).1]; exact can_minK _
theorem can_productK {a b l : List Nat} (h : productK a b = some l) : Can l := by rw [(productK_some h).1]; exact can_minK _
theorem foldK_cons (op : List Nat → List Nat → Option (List Nat)) (f a : List Nat) (l : List (List Nat)) : foldK op f (a :: l) = (op f a).bind fun g => foldK op g l := rfl
theorem up_foldOr (args : List (List Nat)) (s : Nat) : ∀ f l, foldK plusK f args = some l → (up l s ↔ up f s ∨ ∃ a ∈ args, up a s) := by
  induction args with
  | nil => intro f l h; cases h; simp
  | cons a args ih =>
    intro f l h
    rw [foldK_cons] at h
    cases h1 : plusK f a with
    | none => rw [h1] at h; cases h
    | some g =>
      rw [h1] at h
      rw [ih g l h, up_plusK h1]
      simp [or_assoc]
theorem up_foldAnd (args : List (List Nat)) (s : Nat) : ∀ f l, foldK productK f args = some l → (up l s ↔ up f s ∧ ∀ a ∈ args, up a s) := by
  induction args with
  | nil => intro f l h; cases h; simp
  | cons a args ih =>
    intro f l h
    rw [foldK_cons] at h
    cases h1 : productK f a with
    | none => rw [h1] at h; cases h
    | some g =>
      rw [h1] at h
      rw [ih g l h, up_productK h1]
      simp [and_assoc]
theorem can_fold (op : List Nat → List Nat → Option (List Nat)) (hop : ∀ a b l, op a b = some l → Can l) (args : List (List Nat)) : ∀ f l, Can f → foldK op f args = some l → Can l := by
  induction args with
  | nil => intro f l hf h; cases h; exact hf
  | cons a args ih =>
    intro f l hf h
    rw [foldK_cons] at h
    cases h1 : op f a with
    | none => rw [h1] at h; cases h
    | some g => rw [h1] at h; exact ih g l (hop _ _ _ h1) h
end Go.Proofs.YtngbjdaaogbjmaaGreat

/-
  Plain: all families are stored sorted, no set in another one, and not too long.
-/
namespace Go.Proofs.YtngbjdaaogbjmaaGreat

def Good (l : List Nat) : Prop := Can l ∧ l.length ≤ 1024
theorem good_nil : Good [] := ⟨can_nil, by simp⟩
theorem good_one (x : Nat) : Good [x] := ⟨can_one x, by simp⟩
theorem good_plusK {a b l : List Nat} (h : plusK a b = some l) : Good l := ⟨can_plusK h, (plusK_some h).2⟩
theorem good_productK {a b l : List Nat} (h : productK a b = some l) : Good l := ⟨can_productK h, (productK_some h).2⟩
theorem product_zero {l : List Nat} (h : Good l) : productK [0] l = some l := by
  have e : minK (allU (minK [0]) (minK l)) = l := by
    refine (minK_of_up (r := l) fun s => ?_).trans h.1
    rw [up_allU, up_minK, up_minK]
    exact ⟨fun h => h.2, fun h => ⟨up_zero s, h⟩⟩
  unfold productK
  rw [if_pos ⟨by simp, h.2⟩, e, if_pos h.2]
theorem plus_nil {l : List Nat} (h : Good l) : plusK [] l = some l := by
  unfold plusK
  rw [if_pos ⟨by simp, h.2⟩, List.nil_append, h.1, if_pos h.2]
theorem good_fold (op : List Nat → List Nat → Option (List Nat)) (hop : ∀ a b l, op a b = some l → Good l) (args : List (List Nat)) : ∀ f l, Good f → foldK op f args = some l → Good l := by
  induction args with
  | nil => intro f l hf h; cases h; exact hf
  | cons a args ih =>
    intro f l hf h
    rw [foldK_cons] at h
    cases h1 : op f a with
    | none => rw [h1] at h; cases h
    | some g => rw [h1] at h; exact ih g l (hop _ _ _ h1) h
theorem good_voteUp (arg : List Nat) (t : List (List Nat)) : ∀ m acc, voteUp arg t m = some acc → ∀ l ∈ acc, Good l := by
  intro m
  induction m with
  | zero => intro acc h; cases h; intro l hl; simp at hl; subst hl; exact good_one 0
  | succ m ih =>
    intro acc h
    unfold voteUp at h
    cases h1 : voteUp arg t m with
    | none => rw [h1] at h; cases h
    | some a =>
      rw [h1] at h
      simp only [Option.bind_some] at h
      cases h2 : nextAt arg t m with
      | none => rw [h2] at h; cases h
      | some x =>
        rw [h2] at h
        cases h
        intro l hl
        rcases List.mem_append.1 hl with hl | hl
        · exact ih a h1 l hl
        · simp at hl
          subst hl
          unfold nextAt at h2
          cases h3 : productK arg (t.getD m []) with
          | none => rw [h3] at h2; cases h2
          | some p => rw [h3] at h2; exact good_plusK h2
theorem good_voteDown (k : Nat) (args : List (List Nat)) : ∀ q t r, (∀ l ∈ t, Good l) → voteDown k args q t = some r → ∀ l ∈ r, Good l := by
  intro q
  induction q with
  | zero => intro t r h e; cases e; exact h
  | succ q ih =>
    intro t r _ e
    unfold voteDown at e
    cases h1 : voteUp (args.getD q []) t k with
    | none => rw [h1] at e; cases e
    | some a => rw [h1] at e; exact ih a r (good_voteUp _ _ _ _ h1) e
theorem good_getD {t : List (List Nat)} (h : ∀ l ∈ t, Good l) (i : Nat) : Good (t.getD i []) := by
  rw [List.getD_eq_getElem?_getD]
  by_cases hi : i < t.length
  · rw [List.getElem?_eq_getElem hi]; exact h _ (List.getElem_mem hi)
  · rw [List.getElem?_eq_none (by omega)]; exact good_nil
theorem good_voteK {args : List (List Nat)} {k : Nat} {l : List Nat} (h : voteK args k = some l) : Good l := by
  unfold voteK at h
  cases h1 : voteDown k args args.length ([0] :: List.replicate k []) with
  | none => rw [h1] at h; cases h
  | some r =>
    rw [h1] at h
    cases h
    refine good_getD (good_voteDown k args _ _ r ?_ h1) k
    intro l hl
    rcases List.mem_cons.1 hl with e | e
    · rw [e]; exact good_one 0
    · rw [(List.mem_replicate.1 e).2]; exact good_nil
theorem good_nodeK {kind k : Int} {fams : List (List Nat)} {l : List Nat} (h : nodeK kind k fams = some l) : Good l := by
  unfold nodeK at h
  split at h
  · split at h
    · cases h; exact good_one 0
    · cases h; exact good_nil
  · split at h
    · exact good_fold _ (fun _ _ _ h => good_plusK h) _ _ _ good_nil h
    · split at h
      · exact good_fold _ (fun _ _ _ h => good_productK h) _ _ _ (good_one 0) h
      · exact good_voteK h
theorem good_famsUp (V : Nat) (mark : List Bool) (nodes : List Nd) : ∀ k out, famsUp V mark nodes k = some out → ∀ l ∈ out, Good l := by
  intro k
  induction k with
  | zero => intro out h; cases h; intro l hl; rw [(List.mem_replicate.1 hl).2]; exact good_nil
  | succ k ih =>
    intro out h
    unfold famsUp at h
    cases h1 : famsUp V mark nodes k with
    | none => rw [h1] at h; cases h
    | some o =>
      rw [h1] at h
      simp only [Option.bind_some, famStep] at h
      split at h
      · cases h2 : nodeK (nodes.getD k noNd).kind (nodes.getD k noNd).k ((nodes.getD k noNd).args.map (famArg V o)) with
        | none => rw [h2] at h; cases h
        | some l =>
          rw [h2] at h
          cases h
          intro x hx
          rcases List.mem_or_eq_of_mem_set hx with hx | hx
          · exact ih o h1 x hx
          · rw [hx]; exact good_nodeK h2
      · cases h; exact ih _ h1
theorem good_famArg {V : Nat} {out : List (List Nat)} (h : ∀ l ∈ out, Good l) (a : Int) : Good (famArg V out a) := by
  unfold famArg
  split
  · exact good_one _
  · exact good_getD h _
theorem fold_and_head {f : List Nat} (h : Good f) (fs : List (List Nat)) : foldK productK [0] (f :: fs) = foldK productK f fs := by rw [foldK_cons, product_zero h]; rfl
theorem fold_or_head {f : List Nat} (h : Good f) (fs : List (List Nat)) : foldK plusK [] (f :: fs) = foldK plusK f fs := by rw [foldK_cons, plus_nil h]; rfl
end Go.Proofs.YtngbjdaaogbjmaaGreat

/-
  Plain: the values of a formula's arguments; what the families say of them.
-/
namespace Go.Proofs.YtngbjdaaogbjmaaGreat

/-- How many of the arguments are true. -/
def trueN (vals : List Bool) : List Int → Nat
  | [] => 0
  | a :: l => (if vals.getD a.toNat false then 1 else 0) + trueN vals l
def nodeV (kind k : Int) (t m : Nat) : Bool :=
  if kind = 0 then k == 1 else if kind = 1 then t == 0 else if kind = 2 then t == m else if kind = 3 then decide (0 < t) else if kind = 4 then decide (k ≤ (t : Int)) else t % 2 == 1
/-- The values of the events, then of the first k nodes. -/
def valsUp (V s : Nat) (nodes : List Nd) : Nat → List Bool
  | 0 => (List.range V).map fun i => s.testBit i
  | k + 1 => valsUp V s nodes k ++ [nodeV (nodes.getD k noNd).kind (nodes.getD k noNd).k (trueN (valsUp V s nodes k) (nodes.getD k noNd).args) (nodes.getD k noNd).args.length]
def valsK (V s : Nat) (nodes : List Nd) : List Bool := valsUp V s nodes nodes.length
theorem len_valsUp (V s : Nat) (nodes : List Nd) (k : Nat) : (valsUp V s nodes k).length = V + k := by
  induction k with
  | zero => simp [valsUp]
  | succ k ih => unfold valsUp; simp [ih]; omega
theorem valsUp_get (V s : Nat) (nodes : List Nd) (j : Nat) : ∀ k i, i < V + j → j ≤ k → (valsUp V s nodes k).getD i false = (valsUp V s nodes j).getD i false := by
  intro k
  induction k with
  | zero => intro i hi hj; have : j = 0 := by omega
            subst this; rfl
  | succ k ih =>
    intro i hi hj
    by_cases e : j = k + 1
    · subst e; rfl
    · rw [← ih i hi (by omega)]
      show (valsUp V s nodes k ++ _).getD i false = _
      rw [List.getD_eq_getElem?_getD, List.getElem?_append_left (by rw [len_valsUp]; omega), ← List.getD_eq_getElem?_getD]
theorem valsUp_event (V s : Nat) (nodes : List Nd) (k i : Nat) (hi : i < V) : (valsUp V s nodes k).getD i false = s.testBit i := by
  rw [valsUp_get V s nodes 0 k i (by omega) (by omega)]
  simp [valsUp, List.getD_eq_getElem?_getD, hi]
theorem trueN_append (vals : List Bool) (a b : List Int) : trueN vals (a ++ b) = trueN vals a + trueN vals b := by
  induction a with
  | nil => simp [trueN]
  | cons x a ih => simp [trueN, ih]; omega
theorem trueN_le (vals : List Bool) (a : List Int) : trueN vals a ≤ a.length := by
  induction a with
  | nil => simp [trueN]
  | cons x a ih => simp only [trueN, List.length_cons]; split <;> omega
theorem trueN_congr (v1 v2 : List Bool) (a : List Int) (h : ∀ x ∈ a, v1.getD x.toNat false = v2.getD x.toNat false) : trueN v1 a = trueN v2 a := by
  induction a with
  | nil => rfl
  | cons x a ih => simp only [trueN]; rw [h x (List.mem_cons_self ..), ih fun y hy => h y (List.mem_cons_of_mem _ hy)]
/-- How many families have a set inside s. -/
noncomputable def upN (s : Nat) : List (List Nat) → Nat
  | [] => 0
  | f :: l => (open Classical in if up f s then 1 else 0) + upN s l
theorem upN_append (s : Nat) (a b : List (List Nat)) : upN s (a ++ b) = upN s a + upN s b := by
  induction a with
  | nil => simp [upN]
  | cons x a ih => simp [upN, ih]; omega
theorem upN_le (s : Nat) (a : List (List Nat)) : upN s a ≤ a.length := by
  induction a with
  | nil => simp [upN]
  | cons x a ih => simp only [upN, List.length_cons]; split <;> omega
theorem upN_pos (s : Nat) (a : List (List Nat)) : 0 < upN s a ↔ ∃ f ∈ a, up f s := by
  induction a with
  | nil => simp [upN]
  | cons x a ih =>
    simp only [upN, List.mem_cons]
    by_cases h : up x s
    · rw [if_pos h]; exact ⟨fun _ => ⟨x, .inl rfl, h⟩, fun _ => by omega⟩
    · rw [if_neg h, Nat.zero_add, ih]
      exact ⟨fun ⟨f, hf, h1⟩ => ⟨f, .inr hf, h1⟩, fun ⟨f, hf, h1⟩ => hf.elim (fun e => absurd (e ▸ h1) h) fun hf => ⟨f, hf, h1⟩⟩
theorem upN_all (s : Nat) (a : List (List Nat)) : upN s a = a.length ↔ ∀ f ∈ a, up f s := by
  induction a with
  | nil => simp [upN]
  | cons x a ih =>
    simp only [upN, List.length_cons, List.mem_cons]
    have := upN_le s a
    by_cases h : up x s
    · rw [if_pos h]
      constructor
      · intro e f hf
        rcases hf with rfl | hf
        · exact h
        · exact ih.1 (by omega) f hf
      · intro e
        have := ih.2 fun f hf => e f (.inr hf)
        omega
    · rw [if_neg h]
      constructor
      · intro e; omega
      · intro e; exact absurd (e x (.inl rfl)) h
/-- The rows of a vote: place j holds "at least j of the arguments so far". -/
theorem up_voteUp (arg : List Nat) (t : List (List Nat)) (s c : Nat) (ht : ∀ j, j < t.length → (up (t.getD j []) s ↔ j ≤ c)) : ∀ m acc, m < t.length → voteUp arg t m = some acc → ∀ j, j < acc.length → (up (acc.getD j []) s ↔ j ≤ c + upN s [arg]) := by
  intro m
  induction m with
  | zero =>
    intro acc _ h j hj
    cases h
    have : j = 0 := by simp at hj; omega
    subst this
    exact ⟨fun _ => by omega, fun _ => up_zero s⟩
  | succ m ih =>
    intro acc hm h j hj
    unfold voteUp at h
    cases h1 : voteUp arg t m with
    | none => rw [h1] at h; cases h
    | some a =>
      rw [h1] at h
      simp only [Option.bind_some] at h
      have hal := len_voteUp arg t m a h1
      cases h2 : nextAt arg t m with
      | none => rw [h2] at h; cases h
      | some x =>
        rw [h2] at h
        cases h
        by_cases hja : j < a.length
        · rw [List.getD_eq_getElem?_getD, List.getElem?_append_left hja, ← List.getD_eq_getElem?_getD]
          exact ih a (by omega) h1 j hja
        · have e : j = m + 1 := by simp at hj; omega
          subst e
          rw [List.getD_eq_getElem?_getD, List.getElem?_append_right (by omega), hal, Nat.sub_self]
          show up x s ↔ _
          unfold nextAt at h2
          cases h3 : productK arg (t.getD m []) with
          | none => rw [h3] at h2; cases h2
          | some p =>
            rw [h3] at h2
            rw [up_plusK h2, up_productK h3, ht m (by omega), ht (m + 1) hm]
            simp only [upN]
            by_cases hu : up arg s
            · rw [if_pos hu]
              constructor
              · rintro (⟨_, h⟩ | h) <;> omega
              · intro h; exact .inl ⟨hu, by omega⟩
            · rw [if_neg hu]
              constructor
              · rintro (⟨h, _⟩ | h)
                · exact absurd h hu
                · omega
              · intro h; exact .inr (by omega)
theorem up_voteDown (k s : Nat) (args : List (List Nat)) : ∀ q t c r, q ≤ args.length → t.length = k + 1 → (∀ j, j < t.length → (up (t.getD j []) s ↔ j ≤ c)) → voteDown k args q t = some r →
    r.length = k + 1 ∧ ∀ j, j < r.length → (up (r.getD j []) s ↔ j ≤ c + upN s (args.take q)) := by
  intro q
  induction q with
  | zero => intro t c r _ hl ht h; cases h; exact ⟨hl, fun j hj => by simpa [upN] using ht j hj⟩
  | succ q ih =>
    intro t c r hq hl ht h
    unfold voteDown at h
    cases h1 : voteUp (args.getD q []) t k with
    | none => rw [h1] at h; cases h
    | some a =>
      rw [h1] at h
      have hal := len_voteUp _ t k a h1
      have h2 := ih a (c + upN s [args.getD q []]) r (by omega) hal (up_voteUp _ t s c ht k a (by omega) h1) h
      refine ⟨h2.1, fun j hj => ?_⟩
      rw [h2.2 j hj, List.take_succ_eq_append_getElem (by omega), upN_append, show args.getD q [] = args[q] by simp [List.getD_eq_getElem?_getD, show q < args.length by omega]]
      omega
theorem up_voteK {args : List (List Nat)} {k : Nat} {l : List Nat} (h : voteK args k = some l) (s : Nat) : up l s ↔ k ≤ upN s args := by
  unfold voteK at h
  cases h1 : voteDown k args args.length ([0] :: List.replicate k []) with
  | none => rw [h1] at h; cases h
  | some r =>
    rw [h1] at h
    cases h
    obtain ⟨h2, h3⟩ := up_voteDown k s args args.length _ 0 r (Nat.le_refl _) (by simp) (by
      intro j hj
      cases j with
      | zero => exact ⟨fun _ => by omega, fun _ => up_zero s⟩
      | succ j =>
        have : ([0] :: List.replicate k ([] : List Nat)).getD (j + 1) [] = [] := by
          rw [List.getD_eq_getElem?_getD]
          simp at hj ⊢
          simp [hj]
        rw [this]
        exact ⟨fun h => absurd h (up_nil s), fun h => by omega⟩) h1
    rw [h3 k (by omega), List.take_length]
    simp
/-- A node's family says its value. -/
theorem up_nodeK {kind k : Int} {fams : List (List Nat)} {l : List Nat} (h : nodeK kind k fams = some l) (hk : kind = 0 ∨ kind = 2 ∨ kind = 3 ∨ kind = 4) (h4 : kind = 4 → 0 ≤ k) (s : Nat) : up l s ↔ nodeV kind k (upN s fams) fams.length = true := by
  unfold nodeK at h
  unfold nodeV
  rcases hk with rfl | rfl | rfl | rfl
  · simp only [if_true] at h ⊢
    by_cases e : k = 1
    · rw [if_pos e] at h; cases h; simp [e, up_zero]
    · rw [if_neg e] at h; cases h; simp [e, up_nil]
  · simp only [show ¬ (2 : Int) = 0 by decide, show ¬ (2 : Int) = 3 by decide, show ¬ (2 : Int) = 1 by decide, if_true, if_false] at h ⊢
    rw [up_foldAnd fams s [0] l h, beq_iff_eq, upN_all]
    simp [up_zero]
  · simp only [show ¬ (3 : Int) = 0 by decide, show ¬ (3 : Int) = 2 by decide, show ¬ (3 : Int) = 1 by decide, if_true, if_false] at h ⊢
    rw [up_foldOr fams s [] l h, decide_eq_true_eq, upN_pos]
    simp [up_nil]
  · simp only [show ¬ (4 : Int) = 0 by decide, show ¬ (4 : Int) = 2 by decide, show ¬ (4 : Int) = 1 by decide, show ¬ (4 : Int) = 3 by decide, if_true, if_false] at h ⊢
    rw [up_voteK h, decide_eq_true_eq]
    have := h4 rfl
    omega
theorem pow_sub (Y s : Nat) : subN (2 ^ Y) s = s.testBit Y := by
  rw [Bool.eq_iff_iff, subN_iff]
  constructor
  · intro h; exact h Y (by simp)
  · intro h i hi
    simp [Nat.testBit_two_pow] at hi
    subst hi
    exact h
/-- The families of the nodes that are marked say their values. -/
theorem up_famsUp (V T s : Nat) (f : Fm) (hok : Ok f V T) (hs : synK V T f = true) (mark : List Bool) (hmark : mark = belowK V T f.nodes)
    (hcl : ∀ i (hi : i < f.nodes.length), mark.getD (V + i) false = true → ∀ a ∈ f.nodes[i].args, mark.getD a.toNat false = true) :
    ∀ k out, k ≤ f.nodes.length → famsUp V mark f.nodes k = some out → ∀ i, i < k → mark.getD (V + i) false = true → (up (out.getD i []) s ↔ (valsUp V s f.nodes k).getD (V + i) false = true) := by
  intro k
  induction k with
  | zero => intro out _ _ i hi; omega
  | succ k ih =>
    intro out hk h i hi hm
    unfold famsUp at h
    cases h1 : famsUp V mark f.nodes k with
    | none => rw [h1] at h; cases h
    | some o =>
      rw [h1] at h
      simp only [Option.bind_some, famStep] at h
      have hkx : k < f.nodes.length := by omega
      have hnd : f.nodes.getD k noNd = f.nodes[k] := by simp [List.getD_eq_getElem?_getD, hkx]
      have hol := len_famsUp V mark f.nodes k o h1
      have hold : ∀ i, i < k → mark.getD (V + i) false = true → (up (o.getD i []) s ↔ (valsUp V s f.nodes (k + 1)).getD (V + i) false = true) := fun i hi hm => by
        rw [valsUp_get V s f.nodes k (k + 1) (V + i) (by omega) (by omega)]
        exact ih o (by omega) h1 i hi hm
      rw [hnd] at h
      by_cases e : i = k
      · subst e
        rw [if_pos hm] at h
        cases h2 : nodeK f.nodes[i].kind f.nodes[i].k (f.nodes[i].args.map (famArg V o)) with
        | none => rw [h2] at h; cases h
        | some l =>
          rw [h2] at h
          cases h
          rw [List.getD_eq_getElem?_getD, List.getElem?_set_self (by omega)]
          show up l s ↔ _
          have hval : (valsUp V s f.nodes (i + 1)).getD (V + i) false = nodeV f.nodes[i].kind f.nodes[i].k (trueN (valsUp V s f.nodes i) f.nodes[i].args) f.nodes[i].args.length := by
            show (valsUp V s f.nodes i ++ _).getD (V + i) false = _
            rw [List.getD_eq_getElem?_getD, List.getElem?_append_right (by rw [len_valsUp]; omega), len_valsUp, Nat.sub_self, hnd]
            rfl
          have hcnt : ∀ bs : List Int, (∀ a ∈ bs, (0 ≤ a ∧ a < (V : Int) + i) ∧ mark.getD a.toNat false = true) → upN s (bs.map (famArg V o)) = trueN (valsUp V s f.nodes i) bs := by
            intro bs
            induction bs with
            | nil => intro _; rfl
            | cons a bs iha =>
              intro ha
              have h3 := ha a (List.mem_cons_self ..)
              simp only [List.map_cons, upN, trueN]
              rw [iha fun x hx => ha x (List.mem_cons_of_mem _ hx)]
              congr 1
              have key : up (famArg V o a) s ↔ (valsUp V s f.nodes i).getD a.toNat false = true := by
                obtain ⟨A, rfl⟩ := Int.eq_ofNat_of_zero_le h3.1.1
                simp only [Int.toNat_natCast] at h3 ⊢
                unfold famArg
                by_cases hAV : A < V
                · rw [if_pos (by omega), valsUp_event V s f.nodes i A hAV]
                  constructor
                  · rintro ⟨t, ht, hts⟩
                    simp at ht
                    subst ht
                    rw [← pow_sub]; exact hts
                  · intro hb
                    exact ⟨2 ^ A, by simp, by rw [pow_sub]; exact hb⟩
                · rw [if_neg (by omega), show ((A : Int) - (V : Int)).toNat = A - V by omega]
                  have := ih o (by omega) h1 (A - V) (by omega) (by rw [show V + (A - V) = A by omega]; exact h3.2)
                  rw [show V + (A - V) = A by omega] at this
                  exact this
              by_cases hu : up (famArg V o a) s
              · rw [if_pos hu, if_pos (key.1 hu)]
              · rw [if_neg hu, if_neg (fun h => hu (key.2 h))]
          have hc := hcnt f.nodes[i].args (fun a ha => ⟨hok.args i hkx a ha, hcl i hkx hm a ha⟩)
          rw [up_nodeK h2 (by
              have := kind_mono hok hs i hkx (by rw [← hmark]; exact hm)
              omega) (fun h4 => by
              have := hok.arity i hkx
              unfold chkK at this
              rw [if_neg (by omega), if_pos h4] at this
              split at this
              · omega
              · cases this) s, hval, hc, List.length_map]
      · split at h
        · cases h2 : nodeK f.nodes[k].kind f.nodes[k].k (f.nodes[k].args.map (famArg V o)) with
          | none => rw [h2] at h; cases h
          | some l =>
            rw [h2] at h
            cases h
            rw [List.getD_eq_getElem?_getD, List.getElem?_set_ne (by omega), ← List.getD_eq_getElem?_getD]
            exact hold i (by omega) hm
        · cases h; exact hold i (by omega) hm
/-- Nothing is found for a node that is not marked. -/
theorem fams_unmarked (V : Nat) (mark : List Bool) (nodes : List Nd) : ∀ k out, famsUp V mark nodes k = some out → ∀ i, mark.getD (V + i) false = false → out.getD i [] = [] := by
  intro k
  induction k with
  | zero =>
    intro out h i _
    cases h
    rw [List.getD_eq_getElem?_getD]
    by_cases hi : i < nodes.length
    · simp [hi]
    · simp [hi]
  | succ k ih =>
    intro out h i hm
    unfold famsUp at h
    cases h1 : famsUp V mark nodes k with
    | none => rw [h1] at h; cases h
    | some o =>
      rw [h1] at h
      simp only [Option.bind_some, famStep] at h
      split at h
      · rename_i hmk
        cases h2 : nodeK (nodes.getD k noNd).kind (nodes.getD k noNd).k ((nodes.getD k noNd).args.map (famArg V o)) with
        | none => rw [h2] at h; cases h
        | some l =>
          rw [h2] at h
          cases h
          have hne : k ≠ i := fun e => by subst e; rw [hmk] at hm; cases hm
          rw [List.getD_eq_getElem?_getD, List.getElem?_set_ne hne, ← List.getD_eq_getElem?_getD]
          exact ih o h1 i hm
      · cases h; exact ih _ h1 i hm
/-- What is below a marked node is marked. -/
theorem markAll_keep (args : List Int) : ∀ (m : List Bool) (i : Nat), m.getD i false = true → (markAll m args).getD i false = true := by
  induction args with
  | nil => intro m i h; exact h
  | cons a l ih =>
    intro m i h
    refine ih (m.set a.toNat true) i ?_
    rw [List.getD_eq_getElem?_getD] at h ⊢
    by_cases e : a.toNat = i
    · subst e
      by_cases hl : a.toNat < m.length
      · rw [List.getElem?_set_self hl]; rfl
      · rw [List.getElem?_eq_none (by omega)] at h; cases h
    · rw [List.getElem?_set_ne e]; exact h
theorem markAll_mem (args : List Int) : ∀ (m : List Bool) (a : Int), a ∈ args → a.toNat < m.length → (markAll m args).getD a.toNat false = true := by
  induction args with
  | nil => intro m a h; cases h
  | cons x l ih =>
    intro m a ha hl
    rcases List.mem_cons.1 ha with e | e
    · subst e
      refine markAll_keep l (m.set a.toNat true) a.toNat ?_
      rw [List.getD_eq_getElem?_getD, List.getElem?_set_self hl]; rfl
    · exact ih (m.set x.toNat true) a e (by simpa using hl)
theorem markAll_other (args : List Int) : ∀ (m : List Bool) (i : Nat), (∀ a ∈ args, a.toNat ≠ i) → (markAll m args).getD i false = m.getD i false := by
  induction args with
  | nil => intro m i _; rfl
  | cons a l ih =>
    intro m i h
    rw [show markAll m (a :: l) = markAll (m.set a.toNat true) l from rfl, ih (m.set a.toNat true) i fun x hx => h x (List.mem_cons_of_mem _ hx)]
    rw [List.getD_eq_getElem?_getD, List.getElem?_set_ne (h a (List.mem_cons_self ..)), ← List.getD_eq_getElem?_getD]
theorem belowGo_keep (V : Nat) (nodes : List Nd) : ∀ k m i, m.getD i false = true → (belowGo V nodes k m).getD i false = true := by
  intro k
  induction k with
  | zero => intro m i h; exact h
  | succ k ih =>
    intro m i h
    unfold belowGo
    refine ih _ i ?_
    split
    · exact markAll_keep _ _ _ h
    · exact h
theorem belowGo_same (V : Nat) (nodes : List Nd) (hargs : ∀ i (h : i < nodes.length), ∀ a ∈ nodes[i].args, 0 ≤ a ∧ a < (V : Int) + i) : ∀ k m i, k ≤ nodes.length → k ≤ i → (belowGo V nodes k m).getD (V + i) false = m.getD (V + i) false := by
  intro k
  induction k with
  | zero => intro m i _ _; rfl
  | succ k ih =>
    intro m i hk hi
    unfold belowGo
    rw [ih _ i (by omega) (by omega)]
    split
    · refine markAll_other _ _ _ fun a ha e => ?_
      rw [show nodes.getD k noNd = nodes[k] by simp [List.getD_eq_getElem?_getD, show k < nodes.length by omega]] at ha
      have := hargs k (by omega) a ha
      omega
    · rfl
theorem belowGo_closed (V : Nat) (nodes : List Nd) (hargs : ∀ i (h : i < nodes.length), ∀ a ∈ nodes[i].args, 0 ≤ a ∧ a < (V : Int) + i) : ∀ k m, k ≤ nodes.length → m.length = V + nodes.length →
    ∀ i (_ : i < k) (h : i < nodes.length), (belowGo V nodes k m).getD (V + i) false = true → ∀ a ∈ nodes[i].args, (belowGo V nodes k m).getD a.toNat false = true := by
  intro k
  induction k with
  | zero => intro m _ _ i hi; omega
  | succ k ih =>
    intro m hk hm i hi h hmark a ha
    have hnd : nodes.getD k noNd = nodes[k] := by simp [List.getD_eq_getElem?_getD, show k < nodes.length by omega]
    unfold belowGo at hmark ⊢
    by_cases e : i = k
    · subst e
      have h2 := belowGo_same V nodes hargs i (if m.getD (V + i) false then markAll m (nodes.getD i noNd).args else m) i (by omega) (Nat.le_refl _)
      rw [h2] at hmark
      have hmi : m.getD (V + i) false = true := by
        by_cases hb : m.getD (V + i) false = true
        · exact hb
        · rw [if_neg hb] at hmark; exact hmark
      refine belowGo_keep V nodes i _ _ ?_
      rw [if_pos hmi, hnd]
      have := hargs i h a ha
      exact markAll_mem _ m a ha (by omega)
    · exact ih (if m.getD (V + k) false then markAll m (nodes.getD k noNd).args else m) (by omega) (by split; rw [len_markAll, hm]; exact hm) i (by omega) h hmark a ha
theorem below_closed (V T : Nat) (f : Fm) (hok : Ok f V T) : ∀ i (hi : i < f.nodes.length), (belowK V T f.nodes).getD (V + i) false = true → ∀ a ∈ f.nodes[i].args, (belowK V T f.nodes).getD a.toNat false = true := by
  intro i hi h a ha
  exact belowGo_closed V f.nodes hok.args f.nodes.length _ (Nat.le_refl _) (by simp) i hi hi h a ha
theorem up_famsK {V T : Nat} {f : Fm} (hok : Ok f V T) (hs : synK V T f = true) {l : List (List Nat)} (hl : famsK V T f.nodes = some l) (s i : Nat) (hi : i < f.nodes.length) (hm : (belowK V T f.nodes).getD (V + i) false = true) :
    up (l.getD i []) s ↔ (valsK V s f.nodes).getD (V + i) false = true :=
  up_famsUp V T s f hok hs _ rfl (below_closed V T f hok) f.nodes.length l (Nat.le_refl _) hl i hi hm
end Go.Proofs.YtngbjdaaogbjmaaGreat

/-
  Plain: a formula in which an event is replaced by a constant, which is node 0; Restrict.
-/
namespace Go.Proofs.YtngbjdaaogbjmaaGreat

def mvA (V e : Nat) (a : Int) : Int := if a = e then V else if a < V then a else a + 1
def mvN (V e : Nat) (x : Nd) : Nd := ⟨x.kind, x.k, x.args.map (mvA V e)⟩
def mvF (V e : Nat) (k : Int) (f : Fm) (T : Nat) : Fm := ⟨V, ⟨0, k, []⟩ :: f.nodes.map (mvN V e), mvA V e T⟩
theorem mvA_range {V e j : Nat} {a : Int} (h : 0 ≤ a ∧ a < (V : Int) + j) : 0 ≤ mvA V e a ∧ mvA V e a < (V : Int) + (j + 1 : Nat) := by
  unfold mvA; split
  · omega
  · split <;> omega
theorem mvA_inj {V e : Nat} {a b : Int} (h : mvA V e a = mvA V e b) : a = b := by
  unfold mvA at h
  split at h <;> split at h <;> (try split at h) <;> (try split at h) <;> omega
theorem chkNd_mk {b : Int} {x : Nd} (h1 : 0 ≤ x.kind ∧ x.kind ≤ 5) (h2 : argsOk x.kind x.args.length = true) (h3 : ∀ a ∈ x.args, 0 ≤ a ∧ a < b) (h4 : chkK x.kind x.k x.args.length = 0) : chkNd b x = 0 := by
  unfold chkNd
  rw [if_neg (by omega), if_neg (by rw [h2]; simp), if_neg, h4]
  rw [Bool.not_eq_false, List.all_eq_true]
  intro a ha
  exact decide_eq_true (h3 a ha)
theorem mv_chk {V T : Nat} {f : Fm} (hok : Ok f V T) (e : Nat) (k : Int) (hk : k = 0 ∨ k = 1) (hn : f.nodes.length ≤ 100) : chkF (mvF V e k f T) = 0 := by
  have hV := hok.v24
  have hT := hok.tlt
  unfold chkF
  have hlen : (mvF V e k f T).nodes.length = f.nodes.length + 1 := by simp [mvF]
  rw [if_neg (by show ¬ ((V : Int) < 0 ∨ 24 < (V : Int)); omega), if_neg (by rw [hlen]; omega)]
  rw [if_pos]
  · rw [if_pos]
    unfold okArg
    rw [decide_eq_true_eq, hlen]
    show 0 ≤ (V : Int) ∧ 0 ≤ mvA V e T ∧ (mvA V e T < V ∨ mvA V e T - V < _)
    have := mvA_range (V := V) (e := e) (j := f.nodes.length) (a := (T : Int)) (by omega)
    omega
  · refine chkFrom_none _ _ fun j hj => ?_
    cases j with
    | zero => exact chkNd_mk (by simp [mvF]) (by simp [mvF, argsOk]) (by simp [mvF]) (by simp [mvF, chkK, hk])
    | succ j =>
      have hj' : j < f.nodes.length := by rw [hlen] at hj; omega
      have e1 : (mvF V e k f T).nodes[j + 1] = mvN V e f.nodes[j] := by simp [mvF]
      rw [e1]
      refine chkNd_mk (hok.kind j hj') ?_ ?_ ?_
      · show argsOk f.nodes[j].kind (f.nodes[j].args.map _).length = true
        rw [List.length_map]; exact hok.argc j hj'
      · intro a ha
        obtain ⟨x, hx, rfl⟩ := List.mem_map.1 ha
        exact mvA_range (hok.args j hj' x hx)
      · show chkK f.nodes[j].kind f.nodes[j].k (f.nodes[j].args.map _).length = 0
        rw [List.length_map]; exact hok.arity j hj'
theorem mv_ok {V T : Nat} {f : Fm} (hok : Ok f V T) (e : Nat) (k : Int) (hk : k = 0 ∨ k = 1) (hn : f.nodes.length ≤ 100) : Ok (mvF V e k f T) V (mvA V e T).toNat := by
  obtain ⟨V', T', h⟩ := ok_of _ (mv_chk hok e k hk hn)
  have h1 : (V : Int) = (V' : Int) := h.vars
  have h2 : mvA V e T = (T' : Int) := h.top
  obtain rfl : V' = V := by omega
  rw [h2]
  simpa using h
/-- The marks of the moved formula are images of marks. -/
theorem mv_below {V T : Nat} {f : Fm} (hok : Ok f V T) (e : Nat) (k : Int) (he : e < V) : ∀ j (m' m : List Bool), j ≤ f.nodes.length → m.length = V + f.nodes.length →
    (∀ a : Nat, a < V + f.nodes.length → m'.getD (mvA V e a).toNat false = true → m.getD a false = true) →
    ∀ a : Nat, a < V + f.nodes.length → (belowGo V (mvF V e k f T).nodes (j + 1) m').getD (mvA V e a).toNat false = true → (belowGo V f.nodes j m).getD a false = true := by
  intro j
  induction j with
  | zero =>
    intro m' m _ _ h a ha
    unfold belowGo
    have e1 : (mvF V e k f T).nodes.getD 0 noNd = ⟨0, k, []⟩ := by simp [mvF]
    rw [e1]
    have : belowGo V (mvF V e k f T).nodes 0 (if m'.getD (V + 0) false = true then markAll m' [] else m') = m' := by
      show (if m'.getD (V + 0) false = true then m' else m') = m'
      split <;> rfl
    show (belowGo V (mvF V e k f T).nodes 0 (if m'.getD (V + 0) false = true then markAll m' [] else m')).getD (mvA V e a).toNat false = true → m.getD a false = true
    rw [this]
    exact h a ha
  | succ j ih =>
    intro m' m hj hm h a ha
    have hnd : f.nodes.getD j noNd = f.nodes[j] := by simp [List.getD_eq_getElem?_getD, show j < f.nodes.length by omega]
    have hnd' : (mvF V e k f T).nodes.getD (j + 1) noNd = mvN V e f.nodes[j] := by
      simp [mvF, List.getD_eq_getElem?_getD, show j < f.nodes.length by omega]
    show (belowGo V (mvF V e k f T).nodes (j + 1) (if m'.getD (V + (j + 1)) false then markAll m' ((mvF V e k f T).nodes.getD (j + 1) noNd).args else m')).getD (mvA V e a).toNat false = true →
      (belowGo V f.nodes j (if m.getD (V + j) false then markAll m (f.nodes.getD j noNd).args else m)).getD a false = true
    rw [hnd, hnd']
    refine ih _ _ (by omega) (by split; rw [len_markAll, hm]; exact hm) ?_ a ha
    intro b hb hmb
    by_cases hm1 : m'.getD (V + (j + 1)) false = true
    · have hm2 : m.getD (V + j) false = true := by
        refine h (V + j) (by omega) ?_
        rw [show (mvA V e ((V + j : Nat) : Int)).toNat = V + (j + 1) by unfold mvA; rw [if_neg (by omega), if_neg (by omega)]; omega]
        exact hm1
      rw [if_pos hm2]
      rw [if_pos hm1] at hmb
      by_cases hx : ∃ x ∈ f.nodes[j].args, x = (b : Int)
      · obtain ⟨x, hx, rfl⟩ := hx
        have := markAll_mem f.nodes[j].args m (b : Int) hx (by simp; omega)
        simpa using this
      · have hother := markAll_other (mvN V e f.nodes[j]).args m' (mvA V e b).toNat (by
          intro y hy hye
          obtain ⟨x, hx2, rfl⟩ := List.mem_map.1 hy
          have hr := hok.args j (by omega) x hx2
          have h1 := (mvA_range (e := e) hr).1
          have h2 := (mvA_range (V := V) (e := e) (j := f.nodes.length) (a := (b : Int)) (by omega)).1
          exact hx ⟨x, hx2, mvA_inj (V := V) (e := e) (by omega)⟩)
        rw [hother] at hmb
        exact markAll_keep _ _ _ (h b hb hmb)
    · rw [if_neg hm1] at hmb
      have := h b hb hmb
      split
      · exact markAll_keep _ _ _ this
      · exact this
theorem mv_marks {V T : Nat} {f : Fm} (hok : Ok f V T) (e : Nat) (k : Int) (he : e < V) (a : Nat) (ha : a < V + f.nodes.length) (h : (belowK V (mvA V e T).toNat (mvF V e k f T).nodes).getD (mvA V e a).toNat false = true) : (belowK V T f.nodes).getD a false = true := by
  have hT := hok.tlt
  unfold belowK at h ⊢
  have hlen : (mvF V e k f T).nodes.length = f.nodes.length + 1 := by simp [mvF]
  rw [hlen] at h
  refine mv_below hok e k he f.nodes.length _ _ (Nat.le_refl _) (by simp) ?_ a ha h
  intro b hb hm
  have h1 := (mvA_range (V := V) (e := e) (j := f.nodes.length) (a := (b : Int)) (by omega)).1
  have h2 := (mvA_range (V := V) (e := e) (j := f.nodes.length) (a := (T : Int)) (by omega)).1
  by_cases hbT : b = T
  · subst hbT
    rw [List.getD_eq_getElem?_getD, List.getElem?_set_self (by simp; omega)]; rfl
  · have hne : (mvA V e T).toNat ≠ (mvA V e b).toNat := fun hc => hbT (by
      have := mvA_inj (V := V) (e := e) (a := (T : Int)) (b := (b : Int)) (by omega)
      omega)
    rw [List.getD_eq_getElem?_getD, List.getElem?_set_ne hne] at hm
    have : (List.replicate (V + (f.nodes.length + 1)) false)[(mvA V e b).toNat]?.getD false = false := by
      rw [List.getElem?_replicate]; split <;> rfl
    rw [this] at hm
    cases hm
theorem kinds_all (V : Nat) (mark : List Bool) (nodes : List Nd) : ∀ k, k ≤ nodes.length → (∀ i (hi : i < nodes.length), i < k → mark.getD (V + i) false = true → nodes[i].kind ≠ 1 ∧ nodes[i].kind ≠ 5) → monoK (kindsUp V mark nodes k) = true := by
  intro k
  induction k with
  | zero => intro _ _; rfl
  | succ k ih =>
    intro hk h
    have h1 := ih (by omega) fun i hi hik => h i hi (by omega)
    unfold kindsUp
    split
    · rename_i hm
      have := h k (by omega) (by omega) hm
      rw [show nodes.getD k noNd = nodes[k] by simp [List.getD_eq_getElem?_getD, show k < nodes.length by omega]]
      unfold monoK at h1 ⊢
      rw [List.all_append, h1]
      simp [this.1, this.2]
    · exact h1
theorem mv_syn {V T : Nat} {f : Fm} (hok : Ok f V T) (hs : synK V T f = true) (e : Nat) (k : Int) (he : e < V) : synK V (mvA V e T).toNat (mvF V e k f T) = true := by
  unfold synK
  refine kinds_all V _ _ _ (Nat.le_refl _) fun i hi _ hm => ?_
  have hlen : (mvF V e k f T).nodes.length = f.nodes.length + 1 := by simp [mvF]
  cases i with
  | zero => simp [mvF]
  | succ i =>
    have hi' : i < f.nodes.length := by omega
    have e1 : (mvF V e k f T).nodes[i + 1] = mvN V e f.nodes[i] := by simp [mvF]
    rw [e1]
    show f.nodes[i].kind ≠ 1 ∧ f.nodes[i].kind ≠ 5
    have h2 := mv_marks hok e k he (V + i) (by omega) (by
      rw [show (mvA V e ((V + i : Nat) : Int)).toNat = V + (i + 1) by unfold mvA; rw [if_neg (by omega), if_neg (by omega)]; omega]
      exact hm)
    have := kind_mono hok hs i hi' h2
    omega
/-- s with the bit e put to b. -/
def putBit (s e : Nat) (b : Bool) : Nat := if b then s ||| 2 ^ e else sdiff s (2 ^ e)
theorem putBit_bit (s e : Nat) (b : Bool) (i : Nat) : (putBit s e b).testBit i = if i = e then b else s.testBit i := by
  unfold putBit sdiff
  cases b with
  | true =>
    simp only [if_true, Nat.testBit_or, Nat.testBit_two_pow]
    by_cases h : i = e
    · subst h; simp
    · rw [if_neg h]; simp [Ne.symm h]
  | false =>
    simp only [Bool.false_eq_true, if_false, Nat.testBit_xor, Nat.testBit_and, Nat.testBit_two_pow]
    by_cases h : i = e
    · subst h; simp
    · rw [if_neg h]; simp [Ne.symm h]
theorem getD_snoc (l : List Bool) (x : Bool) (i : Nat) (h : i = l.length) : (l ++ [x]).getD i false = x := by subst h; simp [List.getD_eq_getElem?_getD]
theorem mv_vals {V T : Nat} {f : Fm} (hok : Ok f V T) (e : Nat) (k : Int) (he : e < V) (s : Nat) : ∀ j, j ≤ f.nodes.length → ∀ a : Nat, a < V + j →
    (valsUp V s (mvF V e k f T).nodes (j + 1)).getD (mvA V e a).toNat false = (valsUp V (putBit s e (k == 1)) f.nodes j).getD a false := by
  intro j
  induction j with
  | zero =>
    intro _ a ha
    have haV : a < V := by omega
    rw [valsUp_event V _ f.nodes 0 a haV, putBit_bit]
    by_cases h : a = e
    · subst h
      rw [if_pos rfl, show (mvA V a (a : Int)).toNat = V by simp [mvA]]
      show (valsUp V s (mvF V a k f T).nodes 0 ++ [_]).getD V false = _
      rw [List.getD_eq_getElem?_getD, List.getElem?_append_right (by rw [len_valsUp]; omega), len_valsUp]
      simp [mvF, nodeV]
    · rw [if_neg h, show (mvA V e (a : Int)).toNat = a by unfold mvA; rw [if_neg (by omega), if_pos (by omega)]; omega]
      exact valsUp_event V s _ 1 a haV
  | succ j ih =>
    intro hj a ha
    have hjl : j < f.nodes.length := by omega
    by_cases haj : a < V + j
    · rw [valsUp_get V _ f.nodes j (j + 1) a haj (by omega), ← ih (by omega) a haj]
      have := (mvA_range (V := V) (e := e) (j := j) (a := (a : Int)) (by omega))
      exact valsUp_get V s _ (j + 1) (j + 1 + 1) _ (by omega) (by omega)
    · have e1 : a = V + j := by omega
      subst e1
      rw [show (mvA V e ((V + j : Nat) : Int)).toNat = V + (j + 1) by unfold mvA; rw [if_neg (by omega), if_neg (by omega)]; omega]
      show (valsUp V s (mvF V e k f T).nodes (j + 1) ++ [_]).getD (V + (j + 1)) false = (valsUp V (putBit s e (k == 1)) f.nodes j ++ [_]).getD (V + j) false
      rw [getD_snoc _ _ _ (len_valsUp V s (mvF V e k f T).nodes (j + 1)).symm, getD_snoc _ _ _ (len_valsUp V (putBit s e (k == 1)) f.nodes j).symm]
      have hnd : f.nodes.getD j noNd = f.nodes[j] := by simp [List.getD_eq_getElem?_getD, hjl]
      have hnd' : (mvF V e k f T).nodes.getD (j + 1) noNd = mvN V e f.nodes[j] := by simp [mvF, List.getD_eq_getElem?_getD, hjl]
      rw [hnd, hnd']
      have hcnt : ∀ bs : List Int, (∀ b ∈ bs, 0 ≤ b ∧ b < (V : Int) + j) → trueN (valsUp V s (mvF V e k f T).nodes (j + 1)) (bs.map (mvA V e)) = trueN (valsUp V (putBit s e (k == 1)) f.nodes j) bs := by
        intro bs
        induction bs with
        | nil => intro _; rfl
        | cons b bs ihb =>
          intro hb
          have h1 := hb b (List.mem_cons_self ..)
          simp only [List.map_cons, trueN]
          obtain ⟨B, rfl⟩ := Int.eq_ofNat_of_zero_le h1.1
          rw [ihb fun x hx => hb x (List.mem_cons_of_mem _ hx), ih (by omega) B (by omega)]
          simp
      simp only [mvN, hcnt f.nodes[j].args (hok.args j hjl), List.length_map]
/-- What Cuts answers says the value of Top. -/
theorem up_cutsK {V T : Nat} {f : Fm} (hok : Ok f V T) (hs : synK V T f = true) {l : List (List Nat)} (hl : famsK V T f.nodes = some l) (s : Nat) :
    up (if T < V then [2 ^ T] else l.getD (T - V) []) s ↔ (valsK V s f.nodes).getD T false = true := by
  by_cases h : T < V
  · rw [if_pos h]
    unfold valsK
    rw [valsUp_event V s f.nodes _ T h, ← pow_sub]
    constructor
    · rintro ⟨t, ht, h1⟩; simp at ht; subst ht; exact h1
    · intro h1; exact ⟨_, by simp, h1⟩
  · rw [if_neg h]
    have hT := hok.tlt
    have := up_famsK hok hs hl s (T - V) (by omega) (by
      rw [show V + (T - V) = T by omega]
      unfold belowK
      refine belowGo_keep V f.nodes _ _ T ?_
      rw [List.getD_eq_getElem?_getD, List.getElem?_set_self (by simp; omega)]; rfl)
    rw [show V + (T - V) = T by omega] at this
    exact this
theorem good_cuts {V T : Nat} {nodes : List Nd} {l : List (List Nat)} (hl : famsK V T nodes = some l) : Good (if T < V then [2 ^ T] else l.getD (T - V) []) := by
  split
  · exact good_one _
  · exact good_getD (good_famsUp V _ nodes nodes.length l hl) _
/-- Restrict. -/
def restrictK (l : List Nat) (fl wk : Nat) : List Nat := minK ((l.filter fun s => s &&& wk == 0).map fun s => sdiff s fl)
theorem sdiff_bit (a b i : Nat) : (sdiff a b).testBit i = (a.testBit i && !b.testBit i) := by
  unfold sdiff
  rw [Nat.testBit_xor, Nat.testBit_and]
  cases a.testBit i <;> cases b.testBit i <;> rfl
theorem restrict_failed (l : List Nat) (e s : Nat) : up (restrictK l (2 ^ e) 0) s ↔ up l (putBit s e true) := by
  unfold restrictK
  rw [up_minK]
  unfold up
  constructor
  · rintro ⟨t, ht, h⟩
    obtain ⟨x, hx, rfl⟩ := List.mem_map.1 ht
    refine ⟨x, (List.mem_filter.1 hx).1, subN_iff.2 fun i hi => ?_⟩
    rw [putBit_bit]
    split
    · rfl
    · rename_i hne
      refine subN_iff.1 h i ?_
      rw [sdiff_bit, hi, Nat.testBit_two_pow]
      simp [Ne.symm hne]
  · rintro ⟨x, hx, h⟩
    refine ⟨sdiff x (2 ^ e), List.mem_map.2 ⟨x, List.mem_filter.2 ⟨hx, by simp⟩, rfl⟩, subN_iff.2 fun i hi => ?_⟩
    rw [sdiff_bit, Nat.testBit_two_pow] at hi
    simp at hi
    have := subN_iff.1 h i hi.1
    rw [putBit_bit, if_neg (Ne.symm hi.2)] at this
    exact this
theorem restrict_working (l : List Nat) (e s : Nat) : up (restrictK l 0 (2 ^ e)) s ↔ up l (putBit s e false) := by
  unfold restrictK
  rw [up_minK]
  unfold up
  have hz : ∀ x : Nat, sdiff x 0 = x := fun x => by unfold sdiff; simp
  have hb : ∀ x : Nat, (x &&& 2 ^ e == 0) = !x.testBit e := by
    intro x
    rw [Bool.eq_iff_iff]
    simp only [beq_iff_eq, Bool.not_eq_true']
    constructor
    · intro h
      have : (x &&& 2 ^ e).testBit e = false := by rw [h]; simp
      simpa using this
    · intro h
      apply Nat.eq_of_testBit_eq
      intro i
      rw [Nat.testBit_and, Nat.testBit_two_pow]
      by_cases hi : e = i
      · subst hi; simp [h]
      · simp [hi]
  constructor
  · rintro ⟨t, ht, h⟩
    obtain ⟨x, hx, rfl⟩ := List.mem_map.1 ht
    rw [hz] at h
    obtain ⟨h1, h2⟩ := List.mem_filter.1 hx
    rw [hb] at h2
    refine ⟨x, h1, subN_iff.2 fun i hi => ?_⟩
    rw [putBit_bit, if_neg]
    · exact subN_iff.1 h i hi
    · intro hie; subst hie; rw [hi] at h2; cases h2
  · rintro ⟨x, hx, h⟩
    have hxe : x.testBit e = false := by
      cases hq : x.testBit e with
      | false => rfl
      | true =>
        have := subN_iff.1 h e hq
        rw [putBit_bit, if_pos rfl] at this
        cases this
    refine ⟨sdiff x 0, List.mem_map.2 ⟨x, List.mem_filter.2 ⟨hx, by rw [hb, hxe]; rfl⟩, rfl⟩, subN_iff.2 fun i hi => ?_⟩
    rw [hz] at hi
    have := subN_iff.1 h i hi
    rw [putBit_bit] at this
    split at this
    · cases this
    · exact this
/-- With the event replaced, the cut sets are the restricted ones. -/
theorem mv_cuts {V T : Nat} {f : Fm} (hok : Ok f V T) (hs : synK V T f = true) (e : Nat) (he : e < V) (hn : f.nodes.length ≤ 100) (k : Int) (hk : k = 0 ∨ k = 1) {l l' : List (List Nat)} (hl : famsK V T f.nodes = some l)
    (hl' : famsK V (mvA V e T).toNat (mvF V e k f T).nodes = some l') :
    (if (mvA V e T).toNat < V then [2 ^ (mvA V e T).toNat] else l'.getD ((mvA V e T).toNat - V) []) = restrictK (if T < V then [2 ^ T] else l.getD (T - V) []) (if k = 1 then 2 ^ e else 0) (if k = 1 then 0 else 2 ^ e) := by
  have hok' := mv_ok hok e k hk hn
  have hs' := mv_syn hok hs e k he
  refine can_eq (good_cuts hl').1 (by unfold restrictK; exact can_minK _) fun s => ?_
  have hT := hok.tlt
  have hlen : (mvF V e k f T).nodes.length = f.nodes.length + 1 := by simp [mvF]
  rw [up_cutsK hok' hs' hl' s]
  unfold valsK
  rw [hlen, mv_vals hok e k he s f.nodes.length (Nat.le_refl _) T hT]
  have h1 := up_cutsK hok hs hl (putBit s e (k == 1))
  unfold valsK at h1
  rw [← h1]
  rcases hk with rfl | rfl
  · simp only [show ¬ (0 : Int) = 1 by decide, if_false, show ((0 : Int) == 1) = false by decide]
    exact (restrict_working _ e s).symm
  · simp only [if_true, show ((1 : Int) == 1) = true by decide]
    exact (restrict_failed _ e s).symm
end Go.Proofs.YtngbjdaaogbjmaaGreat

/-
  Plain: rows of conditions as masks (an event is its bit, node i is bit 24 + i); the procedure of the top-down search.
-/
namespace Go.Proofs.YtngbjdaaogbjmaaGreat

/-- The condition of an argument. -/
def cond (V : Nat) (a : Int) : Nat := if a < V then 2 ^ a.toNat else 2 ^ (24 + (a - V).toNat)
def withC (V r : Nat) (a : Int) : Nat := r ||| cond V a
/-- A row for each choice of k of the arguments. -/
def chooseK (V : Nat) : List Int → Nat → Nat → List Nat
  | [], k, r => if k = 0 then [r] else []
  | a :: l, k, r => if k = 0 then [r] else chooseK V l (k - 1) (withC V r a) ++ chooseK V l k r
/-- What node i is replaced by in a row that has it. -/
def expandK (V : Nat) (x : Nd) (i r : Nat) : List Nat :=
  if x.kind = 0 then (if x.k = 1 then [sdiff r (2 ^ (24 + i))] else [])
  else if x.kind = 2 then [x.args.foldl (withC V) (sdiff r (2 ^ (24 + i)))]
  else if x.kind = 3 then x.args.map (withC V (sdiff r (2 ^ (24 + i))))
  else chooseK V x.args x.k.toNat (sdiff r (2 ^ (24 + i)))
def expR (V : Nat) (x : Nd) (i r : Nat) : List Nat := if r.testBit (24 + i) then expandK V x i r else [r]
def expK (V : Nat) (x : Nd) (i : Nat) (R : List Nat) : List Nat := R.flatMap (expR V x i)
/-- From the nodes below i on: the last rows, and how many there were behind each expansion. -/
def runK (V : Nat) (nodes : List Nd) : Nat → List Nat → Option (List Nat × List Nat)
  | 0, R => some (R, [])
  | i + 1, R =>
    if R.any (fun r => r.testBit (24 + i)) = true then
      if (expK V (nodes.getD i noNd) i R).length ≤ 4096 then
        if (minK (expK V (nodes.getD i noNd) i R)).length ≤ 1024 then (runK V nodes i (minK (expK V (nodes.getD i noNd) i R))).map fun p => (p.1, (minK (expK V (nodes.getD i noNd) i R)).length :: p.2)
        else none
      else none
    else runK V nodes i R
def topK (V T : Nat) (nodes : List Nd) : Option (List Nat × List Nat) := runK V nodes nodes.length [cond V T]

/-- A row's conditions hold. -/
def sat (P : Nat → Prop) (r : Nat) : Prop := ∀ i, r.testBit i = true → P i
def upP (R : List Nat) (P : Nat → Prop) : Prop := ∃ r ∈ R, sat P r
theorem sat_or (P : Nat → Prop) (a b : Nat) : sat P (a ||| b) ↔ sat P a ∧ sat P b := by
  unfold sat
  constructor
  · intro h; exact ⟨fun i hi => h i (by simp [hi]), fun i hi => h i (by simp [hi])⟩
  · rintro ⟨h1, h2⟩ i hi
    simp at hi
    exact hi.elim (h1 i) (h2 i)
theorem sat_pow (P : Nat → Prop) (m : Nat) : sat P (2 ^ m) ↔ P m := by
  unfold sat
  constructor
  · intro h; exact h m (by simp)
  · intro h i hi
    simp [Nat.testBit_two_pow] at hi
    subst hi; exact h
theorem sat_sub {P : Nat → Prop} {a b : Nat} (h : subN a b = true) (hb : sat P b) : sat P a := fun i hi => hb i (subN_iff.1 h i hi)
theorem sat_sdiff (P : Nat → Prop) (r m : Nat) (hr : r.testBit m = true) : sat P r ↔ sat P (sdiff r (2 ^ m)) ∧ P m := by
  unfold sat
  constructor
  · intro h
    refine ⟨fun i hi => ?_, h m hr⟩
    rw [sdiff_bit] at hi
    simp at hi
    exact h i hi.1
  · rintro ⟨h1, h2⟩ i hi
    by_cases e : i = m
    · subst e; exact h2
    · refine h1 i ?_
      rw [sdiff_bit, hi, Nat.testBit_two_pow]
      simp [Ne.symm e]
theorem upP_append (P : Nat → Prop) (a b : List Nat) : upP (a ++ b) P ↔ upP a P ∨ upP b P := by
  unfold upP
  constructor
  · rintro ⟨t, h, h2⟩
    exact (List.mem_append.1 h).elim (fun h => .inl ⟨t, h, h2⟩) fun h => .inr ⟨t, h, h2⟩
  · rintro (⟨t, h, h2⟩ | ⟨t, h, h2⟩)
    · exact ⟨t, List.mem_append.2 (.inl h), h2⟩
    · exact ⟨t, List.mem_append.2 (.inr h), h2⟩
theorem upP_minK (P : Nat → Prop) (l : List Nat) : upP (minK l) P ↔ upP l P := by
  constructor
  · rintro ⟨t, ht, h⟩; exact ⟨t, mem_minK ht, h⟩
  · rintro ⟨t, ht, h⟩
    obtain ⟨y, hy, h2⟩ := exists_min l _ t (Nat.le_refl _) ht
    exact ⟨y, hy, sat_sub h2 h⟩
theorem upP_one (P : Nat → Prop) (r : Nat) : upP [r] P ↔ sat P r := by
  unfold upP; simp
/-- The arguments' count, by their conditions. -/
def Says (V : Nat) (P : Nat → Prop) (vals : List Bool) (args : List Int) : Prop := ∀ a ∈ args, (sat P (cond V a) ↔ vals.getD a.toNat false = true)
theorem upP_choose (V : Nat) (P : Nat → Prop) (vals : List Bool) : ∀ (args : List Int) (k r : Nat), Says V P vals args → (upP (chooseK V args k r) P ↔ sat P r ∧ k ≤ trueN vals args) := by
  intro args
  induction args with
  | nil =>
    intro k r _
    unfold chooseK trueN
    by_cases h : k = 0
    · rw [if_pos h, upP_one]; simp [h]
    · rw [if_neg h]
      constructor
      · rintro ⟨t, ht, _⟩; cases ht
      · rintro ⟨_, h2⟩; omega
  | cons a l ih =>
    intro k r hs
    have hs' : Says V P vals l := fun x hx => hs x (List.mem_cons_of_mem _ hx)
    have ha := hs a (List.mem_cons_self ..)
    unfold chooseK trueN
    by_cases h : k = 0
    · rw [if_pos h, upP_one]; simp [h]
    · rw [if_neg h, upP_append, ih (k - 1) (withC V r a) hs', ih k r hs']
      unfold withC
      rw [sat_or, ha]
      by_cases hv : vals.getD a.toNat false = true
      · rw [if_pos hv]
        constructor
        · rintro (⟨⟨h1, _⟩, h2⟩ | ⟨h1, h2⟩)
          · exact ⟨h1, by omega⟩
          · exact ⟨h1, by omega⟩
        · rintro ⟨h1, h2⟩; exact .inl ⟨⟨h1, hv⟩, by omega⟩
      · rw [if_neg hv]
        constructor
        · rintro (⟨⟨_, h1⟩, _⟩ | ⟨h1, h2⟩)
          · exact absurd h1 hv
          · exact ⟨h1, by omega⟩
        · rintro ⟨h1, h2⟩; exact .inr ⟨h1, by omega⟩
theorem trueN_all (vals : List Bool) (args : List Int) : trueN vals args = args.length ↔ ∀ a ∈ args, vals.getD a.toNat false = true := by
  induction args with
  | nil => simp [trueN]
  | cons a l ih =>
    have := trueN_le vals l
    simp only [trueN, List.length_cons, List.mem_cons, forall_eq_or_imp]
    by_cases h : vals.getD a.toNat false = true
    · rw [if_pos h, ← ih]
      constructor
      · intro e; exact ⟨h, by omega⟩
      · intro e; omega
    · rw [if_neg h]
      constructor
      · intro e; omega
      · intro e; exact absurd e.1 h
theorem trueN_pos (vals : List Bool) (args : List Int) : 0 < trueN vals args ↔ ∃ a ∈ args, vals.getD a.toNat false = true := by
  induction args with
  | nil => simp [trueN]
  | cons a l ih =>
    simp only [trueN, List.mem_cons, exists_eq_or_imp, ← ih]
    by_cases h : vals.getD a.toNat false = true
    · rw [if_pos h]; exact ⟨fun _ => .inl h, fun _ => by omega⟩
    · rw [if_neg h]; exact ⟨fun e => .inr (by omega), fun e => e.elim (fun e => absurd e h) fun e => by omega⟩
theorem sat_fold (V : Nat) (P : Nat → Prop) (args : List Int) : ∀ r, sat P (args.foldl (withC V) r) ↔ sat P r ∧ ∀ a ∈ args, sat P (cond V a) := by
  induction args with
  | nil => intro r; simp
  | cons a l ih =>
    intro r
    show sat P (l.foldl (withC V) (withC V r a)) ↔ _
    rw [ih, withC, sat_or]
    simp [and_assoc]
theorem upP_expand (V : Nat) (P : Nat → Prop) (vals : List Bool) (x : Nd) (i r : Nat) (hs : Says V P vals x.args) (hk : x.kind = 0 ∨ x.kind = 2 ∨ x.kind = 3 ∨ x.kind = 4) (h4 : x.kind = 4 → 0 ≤ x.k) :
    upP (expandK V x i r) P ↔ sat P (sdiff r (2 ^ (24 + i))) ∧ nodeV x.kind x.k (trueN vals x.args) x.args.length = true := by
  unfold expandK nodeV
  rcases hk with hk | hk | hk | hk
  · simp only [hk, if_true]
    by_cases e : x.k = 1
    · rw [if_pos e, upP_one]; simp [e]
    · rw [if_neg e]
      simp only [beq_iff_eq, e, and_false, iff_false]
      rintro ⟨t, ht, _⟩; cases ht
  · simp only [hk, show ¬ (2 : Int) = 0 by decide, show ¬ (2 : Int) = 1 by decide, if_true, if_false]
    rw [upP_one, sat_fold, beq_iff_eq, trueN_all]
    exact and_congr Iff.rfl ⟨fun h a ha => (hs a ha).1 (h a ha), fun h a ha => (hs a ha).2 (h a ha)⟩
  · simp only [hk, show ¬ (3 : Int) = 0 by decide, show ¬ (3 : Int) = 1 by decide, show ¬ (3 : Int) = 2 by decide, if_true, if_false]
    rw [decide_eq_true_eq, trueN_pos]
    constructor
    · rintro ⟨t, ht, h⟩
      obtain ⟨a, ha, rfl⟩ := List.mem_map.1 ht
      have := (sat_or P _ _).1 h
      exact ⟨this.1, a, ha, (hs a ha).1 this.2⟩
    · rintro ⟨h, a, ha, h2⟩
      exact ⟨_, List.mem_map.2 ⟨a, ha, rfl⟩, (sat_or P _ _).2 ⟨h, (hs a ha).2 h2⟩⟩
  · simp only [hk, show ¬ (4 : Int) = 0 by decide, show ¬ (4 : Int) = 1 by decide, show ¬ (4 : Int) = 2 by decide, show ¬ (4 : Int) = 3 by decide, if_true, if_false]
    rw [upP_choose V P vals x.args _ _ hs, decide_eq_true_eq]
    have := h4 hk
    exact and_congr Iff.rfl (by omega)
theorem upP_expK (V : Nat) (P : Nat → Prop) (vals : List Bool) (x : Nd) (i : Nat) (R : List Nat) (h : ∀ r ∈ R, r.testBit (24 + i) = true → Says V P vals x.args ∧ (x.kind = 0 ∨ x.kind = 2 ∨ x.kind = 3 ∨ x.kind = 4) ∧ (x.kind = 4 → 0 ≤ x.k) ∧ (P (24 + i) ↔ nodeV x.kind x.k (trueN vals x.args) x.args.length = true)) :
    upP (expK V x i R) P ↔ upP R P := by
  unfold expK
  have one : ∀ r ∈ R, (upP (expR V x i r) P ↔ sat P r) := by
    intro r hr
    unfold expR
    by_cases hb : r.testBit (24 + i) = true
    · rw [if_pos hb]
      obtain ⟨h1, h2, h3, h4⟩ := h r hr hb
      rw [upP_expand V P vals x i r h1 h2 h3, ← h4, ← sat_sdiff P r _ hb]
    · rw [if_neg hb, upP_one]
  unfold upP
  constructor
  · rintro ⟨t, ht, hs⟩
    obtain ⟨r, hr, hrt⟩ := List.mem_flatMap.1 ht
    exact ⟨r, hr, (one r hr).1 ⟨t, hrt, hs⟩⟩
  · rintro ⟨r, hr, hs⟩
    obtain ⟨t, ht, h2⟩ := (one r hr).2 hs
    exact ⟨t, List.mem_flatMap.2 ⟨r, hr, ht⟩, h2⟩
end Go.Proofs.YtngbjdaaogbjmaaGreat

/-
  Plain: bounds of the rows of the top-down search; its answer says the value of Top; the order of rows does not matter.
-/
namespace Go.Proofs.YtngbjdaaogbjmaaGreat

/-- All conditions of a row have numbers below b. -/
def RowLt (b r : Nat) : Prop := ∀ j, r.testBit j = true → j < b
theorem rowLt_pow {b m : Nat} (h : m < b) : RowLt b (2 ^ m) := fun j hj => by
  simp [Nat.testBit_two_pow] at hj; omega
theorem rowLt_or {b x y : Nat} (h1 : RowLt b x) (h2 : RowLt b y) : RowLt b (x ||| y) := fun j hj => by
  simp at hj; exact hj.elim (h1 j) (h2 j)
theorem rowLt_sdiff {b r : Nat} (h : RowLt (b + 1) r) : RowLt b (sdiff r (2 ^ b)) := fun j hj => by
  rw [sdiff_bit, Nat.testBit_two_pow] at hj
  simp at hj
  have := h j hj.1
  omega
theorem rowLt_mono {b c r : Nat} (h : RowLt b r) (hc : b ≤ c) : RowLt c r := fun j hj => Nat.lt_of_lt_of_le (h j hj) hc
theorem rowLt_num {b r : Nat} (h : RowLt b r) : r < 2 ^ b := by
  apply Nat.lt_of_not_le
  intro hr
  obtain ⟨i, hi, hb⟩ := Nat.exists_ge_and_testBit_of_ge_two_pow hr
  have := h i hb
  omega
theorem rowLt_of_num {b r : Nat} (h : r < 2 ^ b) : RowLt b r := fun j hj => by
  apply Nat.lt_of_not_le
  intro hb
  rw [Nat.testBit_lt_two_pow (Nat.lt_of_lt_of_le h (Nat.pow_le_pow_right (by omega) hb))] at hj
  cases hj
theorem rowLt_cond {V m : Nat} {a : Int} (h : 0 ≤ a ∧ a < (V : Int) + m) (hV : V ≤ 24) : RowLt (24 + m) (cond V a) := by
  unfold cond
  split
  · exact rowLt_pow (by omega)
  · exact rowLt_pow (by omega)
theorem rowLt_fold {V b : Nat} (args : List Int) (h : ∀ a ∈ args, RowLt b (cond V a)) : ∀ r, RowLt b r → RowLt b (args.foldl (withC V) r) := by
  induction args with
  | nil => intro r hr; exact hr
  | cons a l ih => intro r hr; exact ih (fun x hx => h x (List.mem_cons_of_mem _ hx)) _ (rowLt_or hr (h a (List.mem_cons_self ..)))
theorem rowLt_choose {V b : Nat} (args : List Int) : (∀ a ∈ args, RowLt b (cond V a)) → ∀ k r, RowLt b r → ∀ t ∈ chooseK V args k r, RowLt b t := by
  induction args with
  | nil =>
    intro _ k r hr t ht
    unfold chooseK at ht
    split at ht
    · simp at ht; subst ht; exact hr
    · cases ht
  | cons a l ih =>
    intro h k r hr t ht
    unfold chooseK at ht
    split at ht
    · simp at ht; subst ht; exact hr
    · have h' : ∀ x ∈ l, RowLt b (cond V x) := fun x hx => h x (List.mem_cons_of_mem _ hx)
      rcases List.mem_append.1 ht with ht | ht
      · exact ih h' _ _ (rowLt_or hr (h a (List.mem_cons_self ..))) t ht
      · exact ih h' _ _ hr t ht
theorem rowLt_expand {V i r : Nat} {x : Nd} (hV : V ≤ 24) (ha : ∀ a ∈ x.args, 0 ≤ a ∧ a < (V : Int) + i) (hr : RowLt (24 + i + 1) r) : ∀ t ∈ expandK V x i r, RowLt (24 + i) t := by
  have h' : ∀ a ∈ x.args, RowLt (24 + i) (cond V a) := fun a h => rowLt_cond (ha a h) hV
  have hd := rowLt_sdiff hr
  intro t ht
  unfold expandK at ht
  split at ht
  · split at ht
    · simp at ht; subst ht; exact hd
    · cases ht
  · split at ht
    · simp at ht; subst ht; exact rowLt_fold _ h' _ hd
    · split at ht
      · obtain ⟨a, h1, rfl⟩ := List.mem_map.1 ht
        exact rowLt_or hd (h' a h1)
      · exact rowLt_choose _ h' _ _ hd t ht
theorem rowLt_less {b r : Nat} (h : RowLt (b + 1) r) (hb : r.testBit b = false) : RowLt b r := fun j hj => by
  have := h j hj
  by_cases e : j = b
  · subst e; rw [hb] at hj; cases hj
  · omega
theorem rowLt_expK {V i : Nat} {x : Nd} {R : List Nat} (hV : V ≤ 24) (ha : ∀ a ∈ x.args, 0 ≤ a ∧ a < (V : Int) + i) (hR : ∀ r ∈ R, RowLt (24 + i + 1) r) : ∀ t ∈ expK V x i R, RowLt (24 + i) t := by
  intro t ht
  obtain ⟨r, hr, ht⟩ := List.mem_flatMap.1 ht
  unfold expR at ht
  split at ht
  · exact rowLt_expand hV ha (hR r hr) t ht
  · rename_i h
    simp at ht
    subst ht
    exact rowLt_less (hR t hr) (by simpa using h)
theorem rowLt_skip {i : Nat} {R : List Nat} (hR : ∀ r ∈ R, RowLt (24 + (i + 1)) r) (h : ¬ R.any (fun r => r.testBit (24 + i)) = true) : ∀ r ∈ R, RowLt (24 + i) r := fun r hr =>
  rowLt_less (b := 24 + i) (hR r hr) (by
    cases hb : r.testBit (24 + i) with
    | false => rfl
    | true => exact absurd (List.any_eq_true.2 ⟨r, hr, hb⟩) h)
/-- The nodes of a row are marked. -/
def Marked (V : Nat) (mark : List Bool) (r : Nat) : Prop := ∀ j, r.testBit (24 + j) = true → mark.getD (V + j) false = true
theorem marked_or {V : Nat} {mark : List Bool} {x y : Nat} (h1 : Marked V mark x) (h2 : Marked V mark y) : Marked V mark (x ||| y) := fun j hj => by
  simp at hj; exact hj.elim (h1 j) (h2 j)
theorem marked_sub {V : Nat} {mark : List Bool} {x m : Nat} (h : Marked V mark x) : Marked V mark (sdiff x m) := fun j hj => by
  rw [sdiff_bit] at hj; simp at hj; exact h j hj.1
theorem marked_cond {V : Nat} {mark : List Bool} {a : Int} (h0 : 0 ≤ a) (hV : V ≤ 24) (h : mark.getD a.toNat false = true) : Marked V mark (cond V a) := by
  intro j hj
  unfold cond at hj
  split at hj
  · simp [Nat.testBit_two_pow] at hj; omega
  · simp [Nat.testBit_two_pow] at hj
    rw [show V + j = a.toNat by omega]; exact h
theorem marked_fold {V : Nat} {mark : List Bool} (args : List Int) (h : ∀ a ∈ args, Marked V mark (cond V a)) : ∀ r, Marked V mark r → Marked V mark (args.foldl (withC V) r) := by
  induction args with
  | nil => intro r hr; exact hr
  | cons a l ih => intro r hr; exact ih (fun x hx => h x (List.mem_cons_of_mem _ hx)) _ (marked_or hr (h a (List.mem_cons_self ..)))
theorem marked_choose {V : Nat} {mark : List Bool} (args : List Int) : (∀ a ∈ args, Marked V mark (cond V a)) → ∀ k r, Marked V mark r → ∀ t ∈ chooseK V args k r, Marked V mark t := by
  induction args with
  | nil =>
    intro _ k r hr t ht
    unfold chooseK at ht
    split at ht
    · simp at ht; subst ht; exact hr
    · cases ht
  | cons a l ih =>
    intro h k r hr t ht
    unfold chooseK at ht
    split at ht
    · simp at ht; subst ht; exact hr
    · have h' : ∀ x ∈ l, Marked V mark (cond V x) := fun x hx => h x (List.mem_cons_of_mem _ hx)
      rcases List.mem_append.1 ht with ht | ht
      · exact ih h' _ _ (marked_or hr (h a (List.mem_cons_self ..))) t ht
      · exact ih h' _ _ hr t ht
theorem marked_expK {V i : Nat} {mark : List Bool} {x : Nd} {R : List Nat} (hV : V ≤ 24) (hR : ∀ r ∈ R, Marked V mark r)
    (ha : mark.getD (V + i) false = true → ∀ a ∈ x.args, 0 ≤ a ∧ mark.getD a.toNat false = true) : ∀ t ∈ expK V x i R, Marked V mark t := by
  intro t ht
  obtain ⟨r, hr, ht⟩ := List.mem_flatMap.1 ht
  unfold expR at ht
  split at ht
  · rename_i hb
    have hm := ha (hR r hr i hb)
    have h' : ∀ a ∈ x.args, Marked V mark (cond V a) := fun a h => marked_cond (hm a h).1 hV (hm a h).2
    have hd : Marked V mark (sdiff r (2 ^ (24 + i))) := marked_sub (hR r hr)
    unfold expandK at ht
    split at ht
    · split at ht
      · simp at ht; subst ht; exact hd
      · cases ht
    · split at ht
      · simp at ht; subst ht; exact marked_fold _ h' _ hd
      · split at ht
        · obtain ⟨a, h1, rfl⟩ := List.mem_map.1 ht
          exact marked_or hd (h' a h1)
        · exact marked_choose _ h' _ _ hd t ht
  · simp at ht; subst ht; exact hR t hr
/-- What holds of the conditions in a state. -/
def holdsP (V s : Nat) (nodes : List Nd) (i : Nat) : Prop := if i < 24 then s.testBit i = true else (valsK V s nodes).getD (V + (i - 24)) false = true
theorem says_args {V T : Nat} {f : Fm} (hok : Ok f V T) (s : Nat) (args : List Int) (h : ∀ a ∈ args, 0 ≤ a) : Says V (holdsP V s f.nodes) (valsK V s f.nodes) args := by
  intro a ha
  have h0 := h a ha
  have hV := hok.v24
  unfold cond
  by_cases hlt : a < V
  · rw [if_pos hlt, sat_pow]
    unfold holdsP
    rw [if_pos (by omega)]
    unfold valsK
    rw [valsUp_event V s f.nodes _ a.toNat (by omega)]
  · rw [if_neg hlt, sat_pow]
    unfold holdsP
    rw [if_neg (by omega), show V + (24 + (a - (V : Int)).toNat - 24) = a.toNat by omega]
theorem holds_node {V T : Nat} {f : Fm} (hok : Ok f V T) (s i : Nat) (hi : i < f.nodes.length) : holdsP V s f.nodes (24 + i) ↔ nodeV f.nodes[i].kind f.nodes[i].k (trueN (valsK V s f.nodes) f.nodes[i].args) f.nodes[i].args.length = true := by
  have hnd : f.nodes.getD i noNd = f.nodes[i] := by simp [List.getD_eq_getElem?_getD, hi]
  unfold holdsP
  rw [if_neg (by omega), show V + (24 + i - 24) = V + i by omega]
  unfold valsK
  rw [valsUp_get V s f.nodes (i + 1) f.nodes.length (V + i) (by omega) (by omega)]
  show (valsUp V s f.nodes i ++ [_]).getD (V + i) false = true ↔ _
  rw [getD_snoc _ _ _ (len_valsUp V s f.nodes i).symm, hnd,
    trueN_congr (valsUp V s f.nodes i) (valsUp V s f.nodes f.nodes.length) f.nodes[i].args fun x hx => by
      have := hok.args i hi x hx
      exact (valsUp_get V s f.nodes i f.nodes.length x.toNat (by omega) (by omega)).symm]
theorem upP_runK {V T : Nat} {f : Fm} (hok : Ok f V T) (hs : synK V T f = true) (s : Nat) : ∀ i R p, i ≤ f.nodes.length → (∀ r ∈ R, Marked V (belowK V T f.nodes) r) → runK V f.nodes i R = some p → (upP p.1 (holdsP V s f.nodes) ↔ upP R (holdsP V s f.nodes)) := by
  intro i
  induction i with
  | zero => intro R p _ _ h; cases h; exact Iff.rfl
  | succ i ih =>
    intro R p hi hm h
    have hil : i < f.nodes.length := by omega
    have hnd : f.nodes.getD i noNd = f.nodes[i] := by simp [List.getD_eq_getElem?_getD, hil]
    unfold runK at h
    rw [hnd] at h
    split at h
    · split at h
      · split at h
        · cases h1 : runK V f.nodes i (minK (expK V f.nodes[i] i R)) with
          | none => rw [h1] at h; cases h
          | some q =>
            rw [h1] at h
            cases h
            have hm2 : ∀ r ∈ minK (expK V f.nodes[i] i R), Marked V (belowK V T f.nodes) r := fun r hr =>
              marked_expK hok.v24 hm (fun hk a ha => ⟨(hok.args i hil a ha).1, below_closed V T f hok i hil hk a ha⟩) r (mem_minK hr)
            rw [ih _ q (by omega) hm2 h1, upP_minK]
            refine upP_expK V _ (valsK V s f.nodes) f.nodes[i] i R fun r hr hb => ?_
            have hmk := hm r hr i hb
            have hkd := kind_mono hok hs i hil hmk
            refine ⟨says_args hok s _ fun a ha => (hok.args i hil a ha).1, hkd, fun h4 => ?_, holds_node hok s i hil⟩
            have := hok.arity i hil
            unfold chkK at this
            rw [if_neg (by omega), if_pos h4] at this
            split at this
            · omega
            · cases this
        · cases h
      · cases h
    · exact ih R p (by omega) hm h
theorem rowLt_runK {V T : Nat} {f : Fm} (hok : Ok f V T) : ∀ i R p, i ≤ f.nodes.length → (∀ r ∈ R, RowLt (24 + i) r) → runK V f.nodes i R = some p → ∀ r ∈ p.1, RowLt 24 r := by
  intro i
  induction i with
  | zero => intro R p _ hR h; cases h; exact hR
  | succ i ih =>
    intro R p hi hR h
    have hil : i < f.nodes.length := by omega
    have hnd : f.nodes.getD i noNd = f.nodes[i] := by simp [List.getD_eq_getElem?_getD, hil]
    unfold runK at h
    rw [hnd] at h
    split at h
    · split at h
      · split at h
        · cases h1 : runK V f.nodes i (minK (expK V f.nodes[i] i R)) with
          | none => rw [h1] at h; cases h
          | some q =>
            rw [h1] at h
            cases h
            exact ih _ q (by omega) (fun r hr => rowLt_expK hok.v24 (hok.args i hil) hR r (mem_minK hr)) h1
        · cases h
      · cases h
    · rename_i hany
      exact ih R p (by omega) (rowLt_skip hR hany) h
theorem can_runK (V : Nat) (nodes : List Nd) : ∀ i R p, Good R → runK V nodes i R = some p → Good p.1 := by
  intro i
  induction i with
  | zero => intro R p hR h; cases h; exact hR
  | succ i ih =>
    intro R p hR h
    unfold runK at h
    split at h
    · split at h
      · split at h
        · cases h1 : runK V nodes i (minK (expK V (nodes.getD i noNd) i R)) with
          | none => rw [h1] at h; cases h
          | some q =>
            rw [h1] at h
            cases h
            exact ih _ q ⟨can_minK _, by assumption⟩ h1
        · cases h
      · cases h
    · exact ih R p hR h
/-- The answer of the search: a family that says the value of Top. -/
theorem topK_says {V T : Nat} {f : Fm} (hok : Ok f V T) (hs : synK V T f = true) {p : List Nat × List Nat} (h : topK V T f.nodes = some p) :
    Good p.1 ∧ (∀ r ∈ p.1, Mk r) ∧ ∀ s, up p.1 s ↔ (valsK V s f.nodes).getD T false = true := by
  have hT := hok.tlt
  have hV := hok.v24
  have hlt : ∀ r ∈ [cond V (T : Int)], RowLt (24 + f.nodes.length) r := by
    intro r hr
    simp at hr
    subst hr
    exact rowLt_cond (by omega) hV
  have hmk : ∀ r ∈ [cond V (T : Int)], Marked V (belowK V T f.nodes) r := by
    intro r hr
    simp at hr
    subst hr
    refine marked_cond (by omega) hV ?_
    unfold belowK
    refine belowGo_keep V f.nodes _ _ _ ?_
    rw [List.getD_eq_getElem?_getD, Int.toNat_natCast, List.getElem?_set_self (by simp; omega)]; rfl
  have h24 := rowLt_runK hok _ _ p (Nat.le_refl _) hlt h
  refine ⟨can_runK V f.nodes _ _ p (good_one _) h, fun r hr => rowLt_num (h24 r hr), fun s => ?_⟩
  have hup := upP_runK hok hs s _ _ p (Nat.le_refl _) hmk h
  have e1 : up p.1 s ↔ upP p.1 (holdsP V s f.nodes) := by
    unfold up upP
    have : ∀ r ∈ p.1, (subN r s = true ↔ sat (holdsP V s f.nodes) r) := by
      intro r hr
      rw [subN_iff]
      unfold sat holdsP
      constructor
      · intro h i hi
        rw [if_pos (h24 r hr i hi)]; exact h i hi
      · intro h i hi
        have := h i hi
        rw [if_pos (h24 r hr i hi)] at this; exact this
    exact ⟨fun ⟨r, hr, h⟩ => ⟨r, hr, (this r hr).1 h⟩, fun ⟨r, hr, h⟩ => ⟨r, hr, (this r hr).2 h⟩⟩
  rw [e1, hup, upP_one]
  have := says_args hok s [(T : Int)] (by simp) (T : Int) (by simp)
  rw [this]; simp
/-- Both ways find the same. -/
theorem topK_cuts {V T : Nat} {f : Fm} (hok : Ok f V T) (hs : synK V T f = true) {p : List Nat × List Nat} (h : topK V T f.nodes = some p) {l : List (List Nat)} (hl : famsK V T f.nodes = some l) :
    p.1 = (if T < V then [2 ^ T] else l.getD (T - V) []) := by
  obtain ⟨h1, _, h3⟩ := topK_says hok hs h
  exact can_eq h1.1 (good_cuts hl).1 fun s => (h3 s).trans (up_cutsK hok hs hl s).symm

/-- The rows that stay of a list sorted by size. -/
theorem least_fold (l : List Nat) : ∀ (out done : List Nat), (done ++ l).Pairwise (fun a b => pc a ≤ pc b) → out.Nodup → (∀ x ∈ out, x ∈ done) → (∀ x ∈ done, ∃ t ∈ out, subN t x = true) → (∀ x ∈ out, ∀ y ∈ done, subN y x = true → y = x) →
    (l.foldl keepN out).Nodup ∧ (∀ x ∈ l.foldl keepN out, x ∈ done ++ l) ∧ (∀ x ∈ done ++ l, ∃ t ∈ l.foldl keepN out, subN t x = true) ∧ ∀ x ∈ l.foldl keepN out, ∀ y ∈ done ++ l, subN y x = true → y = x := by
  induction l with
  | nil => intro out done _ h1 h2 h3 h4; simpa using ⟨h1, h2, h3, h4⟩
  | cons s l ih =>
    intro out done hp h1 h2 h3 h4
    have hle : ∀ x ∈ done, pc x ≤ pc s := fun x hx => (List.pairwise_append.1 hp).2.2 x hx s (List.mem_cons_self ..)
    have hp' : ((done ++ [s]) ++ l).Pairwise (fun a b => pc a ≤ pc b) := by simpa using hp
    have e : done ++ s :: l = (done ++ [s]) ++ l := by simp
    rw [e]
    show (l.foldl keepN (keepN out s)).Nodup ∧ _
    by_cases hk : out.any (fun t => subN t s) = true
    · rw [show (s :: l).foldl keepN out = l.foldl keepN out by show l.foldl keepN (keepN out s) = _; rw [show keepN out s = out from if_pos hk], show keepN out s = out from if_pos hk]
      obtain ⟨t, ht, hts⟩ := List.any_eq_true.1 hk
      refine ih out (done ++ [s]) hp' h1 (fun x hx => List.mem_append.2 (.inl (h2 x hx))) (fun x hx => ?_) fun x hx y hy hyx => ?_
      · rcases List.mem_append.1 hx with hx | hx
        · exact h3 x hx
        · simp at hx; subst hx; exact ⟨t, ht, hts⟩
      · rcases List.mem_append.1 hy with hy | hy
        · exact h4 x hx y hy hyx
        · simp at hy
          subst hy
          have := h4 x hx t (h2 t ht) (subN_tr hts hyx)
          subst this
          exact subN_anti hyx hts
    · rw [show (s :: l).foldl keepN out = l.foldl keepN (out ++ [s]) by show l.foldl keepN (keepN out s) = _; rw [show keepN out s = out ++ [s] from if_neg hk], show keepN out s = out ++ [s] from if_neg hk]
      have hk' : ∀ t ∈ out, ¬ subN t s = true := fun t ht h => hk (List.any_eq_true.2 ⟨t, ht, h⟩)
      refine ih (out ++ [s]) (done ++ [s]) hp' ?_ (fun x hx => ?_) (fun x hx => ?_) fun x hx y hy hyx => ?_
      · rw [List.nodup_append]
        refine ⟨h1, by simp, fun a ha b hb => ?_⟩
        simp at hb
        subst hb
        intro e2
        subst e2
        exact hk' _ ha (subN_refl _)
      · rcases List.mem_append.1 hx with hx | hx
        · exact List.mem_append.2 (.inl (h2 x hx))
        · exact List.mem_append.2 (.inr hx)
      · rcases List.mem_append.1 hx with hx | hx
        · obtain ⟨t, ht, h⟩ := h3 x hx
          exact ⟨t, List.mem_append.2 (.inl ht), h⟩
        · simp at hx; subst hx
          exact ⟨x, by simp, subN_refl x⟩
      · rcases List.mem_append.1 hx with hx' | hx
        · rcases List.mem_append.1 hy with hy | hy
          · exact h4 x hx' y hy hyx
          · simp at hy
            subst hy
            exact (subN_le hyx).2 (by have := (subN_le hyx).1; have := hle x (h2 x hx'); omega)
        · simp at hx
          subst hx
          rcases List.mem_append.1 hy with hy | hy
          · obtain ⟨t, ht, h⟩ := h3 y hy
            exact absurd (subN_tr h hyx) (hk' t ht)
          · simp at hy; exact hy
theorem ltK_nodup {l : List Nat} (h : l.Pairwise ltK) : l.Nodup := h.imp fun {a b} hab e => by subst e; exact ltK_irr a hab
theorem perm_of_mem {l r : List Nat} (h1 : l.Nodup) (h2 : r.Nodup) (h : ∀ x, x ∈ l ↔ x ∈ r) : l.Perm r := (List.perm_ext_iff_of_nodup h1 h2).2 h
/-- Least of a list that is sorted by size: in some order, the minimal ones. -/
theorem least_perm {l F : List Nat} (hp : l.Perm F) (hs : l.Pairwise fun a b => pc a ≤ pc b) : (minN l).Perm (minK F) := by
  obtain ⟨h1, h2, h3, h4⟩ := least_fold l [] [] (by simpa using hs) (by simp) (by simp) (by simp) (by simp)
  refine perm_of_mem h1 (ltK_nodup (pair_minK F)) fun x => ?_
  rw [mem_minK_iff]
  simp only [List.nil_append] at h2 h3 h4
  show x ∈ l.foldl keepN [] ↔ _
  constructor
  · intro hx
    exact ⟨hp.mem_iff.1 (h2 x hx), fun y hy hyx => h4 x hx y (hp.mem_iff.2 hy) hyx⟩
  · rintro ⟨hx, hmin⟩
    obtain ⟨t, ht, htx⟩ := h3 x (hp.mem_iff.2 hx)
    have := hmin t (hp.mem_iff.1 (h2 t ht)) htx
    subst this; exact ht
theorem expK_perm {V i : Nat} {x : Nd} {L R : List Nat} (h : L.Perm R) : (expK V x i L).Perm (expK V x i R) := h.flatMap_right _
theorem minK_perm {L R : List Nat} (h : L.Perm R) : minK L = minK R := minK_congr _ _ fun _ => h.mem_iff
theorem any_perm {L R : List Nat} (h : L.Perm R) (p : Nat → Bool) : L.any p = R.any p := by
  rw [Bool.eq_iff_iff, List.any_eq_true, List.any_eq_true]
  exact ⟨fun ⟨x, hx, hp⟩ => ⟨x, h.mem_iff.1 hx, hp⟩, fun ⟨x, hx, hp⟩ => ⟨x, h.mem_iff.2 hx, hp⟩⟩
/-- Nodes that no row has are passed by. -/
theorem runK_skip (V : Nat) (nodes : List Nd) (i : Nat) (R : List Nat) : ∀ m, i ≤ m → (∀ j, i ≤ j → j < m → R.any (fun r => r.testBit (24 + j)) = false) → runK V nodes m R = runK V nodes i R := by
  intro m
  induction m with
  | zero => intro h _; have : i = 0 := by omega
            subst this; rfl
  | succ m ih =>
    intro h hj
    by_cases e : i = m + 1
    · subst e; rfl
    · rw [← ih (by omega) fun j h1 h2 => hj j h1 (by omega)]
      conv => lhs; unfold runK
      rw [if_neg (by rw [hj m (by omega) (by omega)]; simp)]
end Go.Proofs.YtngbjdaaogbjmaaGreat
