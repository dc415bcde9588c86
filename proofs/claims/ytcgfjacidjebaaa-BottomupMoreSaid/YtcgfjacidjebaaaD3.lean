/-
  Slices of nodes of the call's own; walk: formula.Trim.
-/
import Derived.Test.YtcgfjacidjebaaaD2
import Derived.Test.YtcgfjacidjebaaaC3
import Derived.Deep.RegionHeld3
import Derived.Deep.AppendLies
import Derived.Deep.RegionLaw
namespace Go.Proofs.Ytcgfjacidjebaaa
open Go.RowKit

theorem info_node : (Try.prog.info? 47).map (fun i => (i.zero, i.size, i.bytes)) = some (some (.agg #[.int .i64 0, .int .i64 0, .slice none 0 0]), 3, 40) := by kernel_rfl
/-- A slice of nodes of these kinds. -/
def KindsAt (w : World) (v : Value) (ks : List Int) : Prop :=
  ∃ (a : Option Addr) (c : Nat), v = .slice a ks.length c ∧ (ks.length ≤ c ∧ (a = none → c = 0)) ∧ ks.length ≤ 140737488355328 ∧
    ∀ i (h : i < ks.length), ∃ b o, a = some ⟨b, o, none⟩ ∧ ∃ (u1 : Int) (sa : Option Addr) (sn sc : Nat), w.cell? ⟨b, o + i * 3, none⟩ = some (.int .i64 ks[i]) ∧ w.cell? ⟨b, o + i * 3 + 1, none⟩ = some (.int .i64 u1) ∧ w.cell? ⟨b, o + i * 3 + 2, none⟩ = some (.slice sa sn sc)
theorem KindsAt.kept {w w' : World} {v : Value} {ks : List Int} (h : KindsAt w v ks) (hk : Kept w w') : KindsAt w' v ks := by
  obtain ⟨a, c, h1, h2, h3, h4⟩ := h
  exact ⟨a, c, h1, h2, h3, fun i hi => let ⟨b, o, h5, u1, sa, sn, sc, h6, h7, h8⟩ := h4 i hi; ⟨b, o, h5, u1, sa, sn, sc, hk.cell h6, hk.cell h7, hk.cell h8⟩⟩
def OwnKinds (w : World) (B : Nat) (v : Value) (ks : List Int) : Prop :=
  ∃ cells, w.ownsRow B 47 3 v ks.length cells ∧ ks.length ≤ 100000 ∧ ∀ i (h : i < ks.length), cells[i * 3]? = some (.int .i64 ks[i]) ∧ ∃ (u1 : Int) (sa : Option Addr) (sn sc : Nat), cells[i * 3 + 1]? = some (.int .i64 u1) ∧ cells[i * 3 + 2]? = some (.slice sa sn sc)
theorem OwnKinds.at {w : World} {B : Nat} {v : Value} {ks : List Int} (h : OwnKinds w B v ks) : KindsAt w v ks := by
  obtain ⟨cells, ⟨h1, h2⟩, h3, h4⟩ := h
  rcases h2 with ⟨rfl, h5⟩ | ⟨g, cap, cur, rfl, h5, h6, h7, h8, h9, h10⟩
  · have : ks = [] := List.eq_nil_of_length_eq_zero h5
    subst this
    exact ⟨none, 0, rfl, ⟨by simp, fun _ => rfl⟩, by simp, fun i h => by simp at h⟩
  · refine ⟨_, cap, rfl, ⟨h7, fun h => by cases h⟩, by omega, fun i hi => ⟨g, 0, rfl, ?_⟩⟩
    have key : ∀ j, j < ks.length * 3 → w.cell? ⟨g, j, none⟩ = cells[j]? := by
      intro j hj
      have e1 : (cur.toList.take (ks.length * 3))[j]? = cells[j]? := by rw [h10]
      rw [List.getElem?_take_of_lt hj] at e1
      simp only [World.cell?, h6]
      simpa using e1
    obtain ⟨e0, u1, sa, sn, sc, e1, e2⟩ := h4 i hi
    refine ⟨u1, sa, sn, sc, ?_, ?_, ?_⟩
    · rw [Nat.zero_add, key _ (by omega)]; exact e0
    · rw [Nat.zero_add, key _ (by omega)]; exact e1
    · rw [Nat.zero_add, key _ (by omega)]; exact e2
/-- The kinds of the first k nodes that are marked. -/
def kindsUp (V : Nat) (mark : List Bool) (nodes : List Nd) : Nat → List Int
  | 0 => []
  | k + 1 => if mark.getD (V + k) false then kindsUp V mark nodes k ++ [(nodes.getD k noNd).kind] else kindsUp V mark nodes k
theorem len_kindsUp (V : Nat) (mark : List Bool) (nodes : List Nd) (k : Nat) : (kindsUp V mark nodes k).length ≤ k := by
  induction k with
  | zero => simp [kindsUp]
  | succ k ih =>
    unfold kindsUp
    split
    · simp; omega
    · omega
/-- What the last loop keeps. -/
structure TInv (w1 w3 wr : World) (g V n : Nat) (ov : Value) (tl : List Int) (ks : List Int) (mark : List Bool) : Prop where
  tlen : tl.length = V + n
  row : RowAt wr (w1.heap.size + 1) 3 (tl.map (.int .i64))
  box : RowAt wr w1.heap.size 24 [.int .i64 V, ov, .int .i64 0]
  own : OwnKinds wr w3.heap.size ov ks
  marks : RowAt wr g 4 (mark.map .bool)
  kept : Kept w1 wr
  size : w3.heap.size ≤ wr.heap.size
def toP (V n k : Nat) : List Int := (List.range k).map (fun i : Nat => (i : Int)) ++ List.replicate (V + n - k) 0
theorem toP_step (V n k : Nat) (h : k < V) : (toP V n k).set k (k : Int) = toP V n (k + 1) := by
  unfold toP
  rw [List.set_append_right _ _ (by simp), List.range_succ, List.map_append, show V + n - k = (V + n - (k + 1)) + 1 by omega, List.replicate_succ]
  simp
theorem toP_len (V n k : Nat) (h : k ≤ V) : (toP V n k).length = V + n := by simp [toP]; omega
theorem arg_step {wo wr w5 : World} {kd kk z : Int} {uv nv : Value} {ys : List Int} {o : Obj} (hown : OwnInts wr (wo.heap.size + 2) uv ys) (hrow : RowAt wr (wo.heap.size + 1) 47 [.int .i64 kd, .int .i64 kk, uv]) (hK : Kept wo wr) (hsz : wo.heap.size + 2 ≤ wr.heap.size) (hys : ys.length ≤ 1000)
    (h5 : w5.ownsRow (wo.heap.size + 2) 3 1 nv (ys.length + 1) (ys.map (Value.int .i64) ++ [.int .i64 z])) (hg : (wr.alloc o).grownBy w5 uv.ownBlock) :
    OwnInts (w5.setCell ⟨wo.heap.size + 1, 2, none⟩ nv) (wo.heap.size + 2) nv (ys ++ [z]) ∧ RowAt (w5.setCell ⟨wo.heap.size + 1, 2, none⟩ nv) (wo.heap.size + 1) 47 [.int .i64 kd, .int .i64 kk, nv] ∧ Kept wo (w5.setCell ⟨wo.heap.size + 1, 2, none⟩ nv) ∧ wo.heap.size + 2 ≤ (w5.setCell ⟨wo.heap.size + 1, 2, none⟩ nv).heap.size := by
  have hne : some (wo.heap.size + 1) ≠ uv.ownBlock := by
    intro e
    have := (hown.1.lt _ e.symm).1
    omega
  have hb : w5.heap[wo.heap.size + 1]? = wr.heap[wo.heap.size + 1]? := (hg.block _ (by simp; omega) hne).trans (Below.heap_alloc wr o _ (by omega))
  have hbel := grown_below hg (hown.1.alloc o) (by simp; omega)
  have hk5 : Kept wo w5 := (hK.alloc o).app (hbel.mono (by omega))
  refine ⟨⟨?_, by simp; omega⟩, ?_, hk5.store (by omega) _ _, ?_⟩
  · have := ownsRow_setCell_below h5 (a := ⟨wo.heap.size + 1, 2, none⟩) (by show wo.heap.size + 1 < _; omega) nv
    simpa using this
  · have := (hrow.same hb).store 2 nv
    simpa using this
  · have h1 := hbel.size
    simp at h1
    simp [World.setCell]; omega
theorem range_other {w : World} {b o : Nat} {cs : List Value} (h : w.rangeAt b o cs) {p : Nat} (hp : b ≠ p) (i : Nat) (u : Value) : (w.setCell ⟨p, i, none⟩ u).rangeAt b o cs :=
  fun j v hj => cell_other (h j v hj) hp i u
theorem app_kind {ops : Array Oper} {rest : List Oper} {o : Oper} {a : Act} {Q : Exit → Act → World → Prop} {w : World} (hgd : o.guard = none) (s x : Operand)
    (ho : o.op = .call { callee := .builtin .append, args := #[s, x], argTypes := #[22, 22] }) (B : Nat) (v : Value) (ks : List Int) (hs : a.eval s = v) (hown : OwnKinds w B v ks)
    (g : Nat) (kd x1 : Int) (sa : Option Addr) (sn sc : Nat) (hx : a.eval x = .slice (some ⟨g, 0, none⟩) 1 1) (hc : w.rangeAt g 0 [.int .i64 kd, .int .i64 x1, .slice sa sn sc]) (hl : ks.length < 100000) (hB : B ≤ w.heap.size)
    (h : ∀ v' w', OwnKinds w' B v' (ks ++ [kd]) → w.grownBy w' v.ownBlock → Below B w w' → wpList Try.prog ops Q rest (a.put o.dst v') w') : wpList Try.prog ops Q (o :: rest) a w := by
  obtain ⟨i0, hi0, hz0, hz1, hz2⟩ := info_parts info_node
  obtain ⟨cells, hown1, hkl, hcell⟩ := hown
  refine wpList_append_own _ hgd s x 22 ho B 47 i0 _ 3 40 Try.underlying22 hi0 hz0 hz1 hz2 rfl (by decide) v ks.length cells hs hown1 ⟨g, 0, none⟩ 1 1 [.int .i64 kd, .int .i64 x1, .slice sa sn sc] hx rfl ?_ ?_ (by unfold maxLen; omega) (by omega) hB ?_
  · intro j u hj
    have := hc j u hj
    rw [Addr.add_mid]; exact this
  · intro u hu
    simp at hu
    rcases hu with rfl | rfl | rfl <;> rfl
  · intro v' w' h3 h4 _
    refine h v' w' ⟨cells ++ [.int .i64 kd, .int .i64 x1, .slice sa sn sc], by simpa using h3, by simp; omega, ?_⟩ h4 (grown_below h4 hown1 hB)
    intro i hi
    simp at hi
    have hcl : cells.length = ks.length * 3 := hown1.1
    by_cases hik : i < ks.length
    · obtain ⟨e0, u1, ua, un, uc, e1, e2⟩ := hcell i hik
      refine ⟨?_, u1, ua, un, uc, ?_, ?_⟩
      · rw [List.getElem?_append_left (by omega), e0, List.getElem_append_left hik]
      · rw [List.getElem?_append_left (by omega), e1]
      · rw [List.getElem?_append_left (by omega), e2]
    · have e : i = ks.length := by omega
      subst e
      refine ⟨?_, x1, sa, sn, sc, ?_, ?_⟩
      · rw [List.getElem?_append_right (by omega), hcl]; simp
      · rw [List.getElem?_append_right (by omega), hcl]; simp
      · rw [List.getElem?_append_right (by omega), hcl]; simp
theorem range_made (w : World) (x0 x1 x2 : Value) (e : TypeId) : (w.alloc (.cells #[x0, x1, x2] e)).rangeAt w.heap.size 0 [x0, x1, x2] := by
  have h := RowAt.made w #[x0, x1, x2] e
  intro j v hj
  match j, hj with
  | 0, hj => simp at hj; subst hj; exact h.cell (i := 0) (by simp)
  | 1, hj => simp at hj; subst hj; exact h.cell (i := 1) (by simp)
  | 2, hj => simp at hj; subst hj; exact h.cell (i := 2) (by simp)
theorem free_other {w : World} {a : Addr} (h : w.frozen? a = false) {p : Nat} (hp : a.block ≠ p) (i : Nat) (u : Value) : (w.setCell ⟨p, i, none⟩ u).frozen? a = false :=
  (World.frozen?_of_block (w := w) (Below.heap_setCell w ⟨p, i, none⟩ u a.block hp)).trans h
theorem Kept.free {w w' : World} (h : Kept w w') {p : Addr} (hp : p.block < w.heap.size) (hf : w.frozen? p = false) : w'.frozen? p = false := (Below.frozen h hp).trans hf
theorem range_madeS (w : World) (a : Addr) (u x0 x1 x2 : Value) (e : TypeId) : ((w.setCell a u).alloc (.cells #[x0, x1, x2] e)).rangeAt w.heap.size 0 [x0, x1, x2] := by
  have h := range_made (w.setCell a u) x0 x1 x2 e
  rwa [show (w.setCell a u).heap.size = w.heap.size by simp [World.setCell]] at h
theorem OwnKinds.kept {w w' : World} {B : Nat} {v : Value} {ks : List Int} (h : OwnKinds w B v ks) (hk : Kept w w') : OwnKinds w' B v ks := by
  obtain ⟨cells, h1, h2⟩ := h
  exact ⟨cells, own_kept h1 hk, h2⟩
theorem OwnKinds.below {w : World} {B : Nat} {v : Value} {ks : List Int} (h : OwnKinds w B v ks) {a : Addr} (ha : a.block < B) (u : Value) : OwnKinds (w.setCell a u) B v ks := by
  obtain ⟨cells, h1, h2⟩ := h
  exact ⟨cells, ownsRow_setCell_below h1 ha u, h2⟩
theorem inv_step {w1 w3 wo wr w6 : World} {g V n k : Nat} {ov nv : Value} {tl ks : List Int} {R : List Bool} {kd t : Int} {cs : Array Value} (hI : TInv w1 w3 wo g V n ov tl ks R) (hK : Kept wo wr) (h1 : w1.heap.size + 1 < w3.heap.size) (hg : w1.heap.size + 1 < g) (hg3 : g < w3.heap.size)
    (h6 : OwnKinds w6 w3.heap.size nv (ks ++ [kd])) (hg6 : ((wr.setCell ⟨w1.heap.size + 1, k, none⟩ (.int .i64 t)).alloc (.cells cs 47)).grownBy w6 ov.ownBlock) :
    TInv w1 w3 (w6.setCell ⟨w1.heap.size, 1, none⟩ nv) g V n nv (tl.set k t) (ks ++ [kd]) R := by
  have hs := hK.size
  have hs3 := hI.size
  have hown : ∀ j, j < w3.heap.size → some j ≠ ov.ownBlock := by
    intro j hj e
    obtain ⟨cells, ho, _⟩ := hI.own
    have := (ho.lt _ e.symm).1
    omega
  have hb : ∀ j, j < w3.heap.size → w6.heap[j]? = (wr.setCell ⟨w1.heap.size + 1, k, none⟩ (.int .i64 t)).heap[j]? := by
    intro j hj
    have l1 : (wr.setCell ⟨w1.heap.size + 1, k, none⟩ (.int .i64 t)).heap.size = wr.heap.size := by simp [World.setCell]
    exact (hg6.block j (by simp; omega) (hown j hj)).trans (Below.heap_alloc _ _ j (by omega))
  have hrow := (hI.row.kept hK).store k (.int .i64 t)
  rw [← List.map_set] at hrow
  have hbox := ((hI.box.kept hK).other (p := w1.heap.size + 1) (by omega) k (.int .i64 t))
  have hmk := ((hI.marks.kept hK).other (p := w1.heap.size + 1) (by omega) k (.int .i64 t))
  refine ⟨by rw [List.length_set]; exact hI.tlen, ?_, ?_, h6.below (by show w1.heap.size < _; omega) _, ?_, ?_, ?_⟩
  · exact (hrow.same (hb _ (by omega))).other (by omega) _ _
  · have := (hbox.same (hb _ (by omega))).store 1 nv
    simpa using this
  · exact (hmk.same (hb _ (by omega))).other (by omega) _ _
  · have l1 : (wr.setCell ⟨w1.heap.size + 1, k, none⟩ (.int .i64 t)).heap.size = wr.heap.size := by simp [World.setCell]
    have k1 : Kept w1 (wr.setCell ⟨w1.heap.size + 1, k, none⟩ (.int .i64 t)) := (hI.kept.trans hK).store (by omega) _ _
    have k2 : Kept w1 w6 := (k1.alloc _).app ⟨hg6.os, hg6.tape, hg6.output, hg6.size, fun j hj => hg6.block j (by simp; omega) (hown j (by omega))⟩
    exact k2.store (Nat.le_refl _) _ _
  · have l1 : (wr.setCell ⟨w1.heap.size + 1, k, none⟩ (.int .i64 t)).heap.size = wr.heap.size := by simp [World.setCell]
    have := hg6.size
    simp at this
    simp [World.setCell] at this ⊢; omega
set_option maxRecDepth 100000 in
set_option maxHeartbeats 8000000 in
theorem trim_any (v : Value) (f : Fm) (V T : Nat) (w : World) (hv : NodesAt w v f.nodes) (hok : Ok f V T) (hck : chkF f = 0) :
    Calls Try.prog 35 #[.agg #[.int .i64 V, v, .int .i64 T]] w fun e w' => ∃ tv, ∃ top : Int, e = .returned (.tuple #[.agg #[.int .i64 V, tv, .int .i64 top], .nilIface]) ∧ KindsAt w' tv (kindsUp V (belowK V T f.nodes) f.nodes f.nodes.length) ∧ Kept w w' := by
  have hchk := check_any v f w hv (by rw [hok.top]; have := hok.tlt; have := hok.n128; have := hok.v24; omega)
  rw [hck] at hchk
  unfold fmV at hchk
  rw [hok.vars, hok.top] at hchk
  have HCH := Lib.hid (fun W (hk : Kept w W) => check_any v f W (hv.kept hk) (by rw [hok.top]; have := hok.tlt; have := hok.n128; have := hok.v24; omega))
  have HBL := Lib.hid (fun W (hk : Kept w W) => below_any v f V T W (hv.kept hk) hok)
  have HV := Lib.hid hv
  obtain ⟨a, c, rfl, _, hl, hx⟩ := hv
  obtain ⟨n, hn⟩ : ∃ n, n = f.nodes.length := ⟨_, rfl⟩
  rw [← hn] at hl HCH HBL
  have hn9 : n ≤ 128 := by rw [hn]; exact hok.n128
  have hV9 := hok.v24
  have hT9 : T < V + n := by rw [hn]; exact hok.tlt
  have E1 := Lib.hid (show fmV (.slice a n c) f = .agg #[.int .i64 V, .slice a n c, .int .i64 T] by unfold fmV; rw [hok.vars, hok.top])
  have hch2 : ∀ W, Kept w W → Calls Try.prog 26 #[.agg #[.int .i64 V, .slice a n c, .int .i64 T]] W fun e w' => e = .returned (errV (chkF f)) ∧ Kept W w' := fun W hk => by have := HCH.out W hk; rw [E1.out] at this; exact this
  have HCH2 := Lib.hid hch2
  clear hch2
  clear HCH E1
  have E2 := Lib.hid (show errV (chkF f) = .nilIface by rw [hck]; rfl)
  have HX := Lib.hid hx
  have HN := Lib.hid hn
  have HO := Lib.hid hok
  rw [← hn]
  clear hx hn hok hl hck hchk
  go_enter Try.func35, Try.ntmps35
  go_wp2_with (first
    | (go_at_call 26; refine (HCH2.out _ (((Kept.refl _).alloc _).alloc _)).mono ?_; rintro e w1 ⟨rfl, hk1⟩; rw [E2.out]; have hs1 := hk1.size; simp only [World.size_alloc] at hs1; have ls0 : w.heap.size < w1.heap.size := (by omega); have ls1 : w.heap.size + 1 < w1.heap.size := (by omega); have b0 := hk1.cell (p := ⟨w.heap.size, 0, none⟩) (v := .int .i64 V) (by simp); have b1 := hk1.cell (p := ⟨w.heap.size, 1, none⟩) (v := .slice a n c) (by simp); have b2 := hk1.cell (p := ⟨w.heap.size, 2, none⟩) (v := .int .i64 T) (by simp))
    | (at_make; refine make_one 27 3 _ 8 info_int Try.underlying27 rfl rfl _ _ rfl (V + n) (by show Value.int .i64 ((V : Int) + (n : Int)) = .int .i64 ((V + n : Nat) : Int); rw [Int.natCast_add]) (by show Value.int .i64 ((V : Int) + (n : Int)) = .int .i64 ((V + n : Nat) : Int); rw [Int.natCast_add]) (by omega) (by unfold maxLen; omega) ?_; intro w2 hr2 hk2; simp only [World.size_alloc] at hr2; have HR2 := Lib.hid hr2; clear hr2; have hk02 := (hk1.trans ((Kept.refl _).alloc _)).trans hk2; have d0 := hk02.cell (p := ⟨w.heap.size, 0, none⟩) (v := .int .i64 V) (by simp)))
  go_loopw [7, 32] (fun _ i wr => ∃ k : Nat, k ≤ V ∧ i = .int .i64 k ∧ RowAt wr (w1.heap.size + 1) 3 ((toP V n k).map (.int .i64)) ∧ Kept (w1.alloc (.cells #[.int .i64 V, .slice none 0 0, .int .i64 0] 24)) wr) (fun _ i _ => V - (intOf i).toNat)
  case atStart => exact ⟨0, Nat.zero_le _, rfl, by simpa [toP] using HR2.out, hk2⟩
  case round =>
    clear hk2
    obtain ⟨k, hk, rfl, hrow, hK⟩ := hrel
    by_cases hlt : k < V
    · have cY := hrow.cell (i := k) (by rw [List.length_map, toP_len V n k hk]; omega)
      have fY := hrow.free k
      have hnew := hrow.store k (.int .i64 k)
      have hKn := hK.store (g := w1.heap.size + 1) (by simp) k (.int .i64 k)
      have hY1 : (k : Int) < (V : Int) + (n : Int) := by omega
      have hY2 : (k : Int) < ((V + n : Nat) : Int) := by omega
      rw [← List.map_set, toP_step V n k hlt] at hnew
      have HNW := Lib.hid hnew
      have HKN := Lib.hid hKn
      clear hnew hKn hrow hK
      go_wp2
      go_roundw
      case rel => exact ⟨k + 1, by omega, by go_num, HNW.out, HKN.out⟩
      case measure => simp [intOf]; omega
    · have e : k = V := by omega
      have htl := toP_len V n k hk
      obtain ⟨tl, htle⟩ : ∃ tl, tl = toP V n k := ⟨_, rfl⟩
      rw [← htle] at hrow htl
      have hkw := (hk1.trans ((Kept.refl _).alloc _)).trans hK
      have hkW : Kept w wr := (((Kept.refl w).alloc _).alloc _).trans hkw
      have q0 := hkw.cell (p := ⟨w.heap.size, 0, none⟩) (v := .int .i64 V) (by simp)
      have q1 := hkw.cell (p := ⟨w.heap.size, 1, none⟩) (v := .slice a n c) (by simp)
      have q2 := hkw.cell (p := ⟨w.heap.size, 2, none⟩) (v := .int .i64 T) (by simp)
      have hlt1 := hrow.lt
      have HRO := Lib.hid hrow
      have HKK := Lib.hid hK
      have HKW := Lib.hid hkW
      have hVn : (V : Int) ≤ (V : Int) + (n : Int) := by omega
      have hVn2 : (V : Int) ≤ ((V + n : Nat) : Int) := by omega
      clear e hrow hkw hkW hK htle
      go_wp2
      go_region_held3 (fun w' => w'.cell? ⟨w.heap.size, 0, none⟩ = some (.int .i64 V) ∧ w'.cell? ⟨w.heap.size, 1, none⟩ = some (.slice a n c) ∧ w'.cell? ⟨w.heap.size, 2, none⟩ = some (.int .i64 T))
        (first | go_keep | exact ⟨hk3.cell q0, hk3.cell q1, hk3.cell q2⟩)
        (first | (go_at_call 68; refine (HBL.out _ (HKW.out.drew)).mono ?_; rintro e w3 ⟨g, rfl, hg, hr3, hk3⟩))
      obtain ⟨R, hR⟩ : ∃ R, R = belowK V T f.nodes := ⟨_, rfl⟩
      rw [← hR] at hr3
      have HR3 := Lib.hid hr3
      have HRe := Lib.hid hR
      have HG3 : g < w3.heap.size := HR3.out.lt
      have hg2 : w1.heap.size + 1 < g := by have h9 : wr.heap.size ≤ g := hg; omega
      have hkw3 : Kept (w1.alloc (.cells #[.int .i64 V, .slice none 0 0, .int .i64 0] 24)) w3 := HKK.out.trans ((Kept.refl wr).drew.trans hk3)
      have hinv0 : TInv w1 w3 w3 g V n (.slice none 0 0) tl [] R := ⟨htl, HRO.out.kept ((Kept.refl wr).drew.trans hk3), (RowAt.made w1 _ _).kept hkw3, ⟨[], World.ownsRow_nil _ _ _ _, by simp, fun i h => by simp at h⟩, HR3.out, ((Kept.refl w1).alloc _).trans hkw3, Nat.le_refl _⟩
      have HI0 := Lib.hid hinv0
      have HKW1 := Lib.hid hk1
      clear hR hr3 hinv0 hkw3 hk3 q0 q1 q2 HRO HKK hg
      by_cases hn0 : n = 0
      · subst hn0
        have hkW2 := HKW1.out.trans HI0.out.kept
        have hbx := HI0.out.box
        have d0 := hkW2.cell (p := ⟨w.heap.size, 0, none⟩) (v := .int .i64 V) (by simp)
        have d2 := hkW2.cell (p := ⟨w.heap.size, 2, none⟩) (v := .int .i64 T) (by simp)
        have c0 := hbx.cell (i := 0) (by simp)
        have c1 := hbx.cell (i := 1) (by simp)
        have c2 := hbx.cell (i := 2) (by simp)
        have f2 := hbx.free 2
        have hTl : T < tl.length := by rw [HI0.out.tlen]; omega
        obtain ⟨zt, cT⟩ : ∃ z : Int, w3.cell? ⟨w1.heap.size + 1, T, none⟩ = some (.int .i64 z) := ⟨tl[T], by have := HI0.out.row.cell (i := T) (by simpa using hTl); rw [List.getElem_map] at this; exact this⟩
        have hY1 : (T : Int) < (V : Int) := by omega
        have hres : RowAt w3 (w.heap.size + 1) 24 [.int .i64 0, .slice none 0 0, .int .i64 0] := by
          have := (RowAt.made (w.alloc (.cells #[.int .i64 V, .slice a 0 c, .int .i64 T] 24)) #[.int .i64 0, .slice none 0 0, .int .i64 0] 24).kept hkW2
          simpa using this
        have r0 := hres.cell (i := 0) (by simp)
        have r1 := hres.cell (i := 1) (by simp)
        have r2 := hres.cell (i := 2) (by simp)
        have s0 := hres.free 0
        have s1 := hres.free 1
        have s2 := hres.free 2
        simp only [List.getElem_cons_succ, List.getElem_cons_zero] at r0 r1 r2 c0 c1 c2
        have ne1 : w1.heap.size ≠ w.heap.size + 1 := by omega
        have ne2 : w.heap.size + 1 ≠ w1.heap.size := by omega
        clear hbx hres
        go_wp2
        refine wp_loop_rounds 1 ?_
        rw [rounds_succ]
        go_wp2
        refine bodyPost_ret (v := .tuple #[.agg #[.int .i64 V, .slice none 0 0, .int .i64 zt], .nilIface]) ?_ rfl ⟨_, _, rfl, ?_, ?_⟩
        · simp [results, Try.results35, go_sem, r0, r1, r2]
        · exact ⟨none, 0, rfl, ⟨by simp [kindsUp], fun _ => rfl⟩, by simp [kindsUp], fun i h => by simp [kindsUp] at h⟩
        · have hkA : Kept w w3 := (((Kept.refl w).alloc _).alloc _).trans hkW2
          exact (((hkA.store (by omega) _ _).store (by omega) _ _).store (by omega) _ _).store (by omega) _ _
      · have hn1 : 0 < n := by omega
        have hn2 : V < V + n := by omega
        go_wp2
        go_loopw [8, 9, 10, 11, 13, 46, 66] (fun _ _ _ _ _ i _ wr => ∃ (k : Nat) (ov : Value) (tl : List Int), k ≤ n ∧ i = .int .i64 k ∧ TInv w1 w3 wr g V n ov tl (kindsUp V R f.nodes k) R) (fun _ _ _ _ _ i _ _ => n - (intOf i).toNat)
        case atStart => exact ⟨0, _, tl, Nat.zero_le _, rfl, HI0.out⟩
        case round =>
          obtain ⟨k, ov, tl, hk, rfl, hinv⟩ := hrel
          have hkW2 := HKW1.out.trans hinv.kept
          have q0 := hkW2.cell (p := ⟨w.heap.size, 0, none⟩) (v := .int .i64 V) (by simp)
          have q1 := hkW2.cell (p := ⟨w.heap.size, 1, none⟩) (v := .slice a n c) (by simp)
          have q2 := hkW2.cell (p := ⟨w.heap.size, 2, none⟩) (v := .int .i64 T) (by simp)
          by_cases hlt : k < n
          · have hRl : R.length = V + n := by rw [HRe.out, len_belowK, HN.out]
            have cm := hinv.marks.cell (i := V + k) (by simp; omega)
            rw [getD_map_bool R (V + k) (by omega)] at cm
            have hup : kindsUp V R f.nodes (k + 1) = if R.getD (V + k) false then kindsUp V R f.nodes k ++ [(f.nodes.getD k noNd).kind] else kindsUp V R f.nodes k := rfl
            have HUP := Lib.hid hup
            clear hup
            cases hmk : R.getD (V + k) false with
            | false =>
              rw [hmk] at cm
              have HMK := Lib.hid hmk
              have HI := Lib.hid hinv
              clear hmk hinv hkW2
              go_wp2
              go_roundw
              case rel => exact ⟨k + 1, ov, tl, by omega, by go_num, by rw [HUP.out, HMK.out]; exact HI.out⟩
              case measure => simp [intOf]; omega
            | true =>
              rw [hmk] at cm
              have HMK := Lib.hid hmk
              have HI := Lib.hid hinv
              clear hmk hinv
              have hkx : k < f.nodes.length := by have := HN.out; omega
              obtain ⟨b, o, rfl, u, hc1, hc2, hc3, hI⟩ := HX.out k hkx
              have hkA : Kept w wr := (((Kept.refl w).alloc (.cells #[.int .i64 V, .slice (some ⟨b, o, none⟩) n c, .int .i64 T] 24)).alloc (.cells #[.int .i64 0, .slice none 0 0, .int .i64 0] 24)).trans hkW2
              have hrange := node_range (hkA.cell hc1) (hkA.cell hc2) (hkA.cell hc3)
              obtain ⟨ax, cx, rfl, _, hlx, hcx⟩ := hI
              have HRG := Lib.hid hrange
              clear hc1 hc2 hc3 hrange
              go_wp2_with (with_reducible refine wpList_load_mid rfl 47 _ rfl b (o + k * 3) rfl _ _ HRG.out Try.underlying47 rfl (by kernel_rfl) ?_)
              obtain ⟨kd, hkd⟩ : ∃ x, x = f.nodes[k].kind := ⟨_, rfl⟩
              obtain ⟨kk, hkk⟩ : ∃ x, x = f.nodes[k].k := ⟨_, rfl⟩
              have hargs := HO.out.args k hkx
              have h16 := argsOk_le (HO.out.argc k hkx)
              obtain ⟨args, hag⟩ : ∃ x, x = f.nodes[k].args := ⟨_, rfl⟩
              rw [← hag] at hcx hargs hlx h16
              rw [← hkd, ← hkk, ← hag]
              obtain ⟨na, hna⟩ : ∃ x, x = args.length := ⟨_, rfl⟩
              rw [← hna] at hlx h16 ⊢
              have HKD := Lib.hid hkd
              have HCX := Lib.hid hcx
              have HAR := Lib.hid hargs
              have HNA := Lib.hid hna
              have HKA := Lib.hid hkA
              obtain ⟨i0, hi0, hz0, hz1, hz2⟩ := info_parts info_int
              have I0 := Lib.hid hi0
              have I1 := Lib.hid hz0
              have I2 := Lib.hid hz1
              have I3 := Lib.hid hz2
              have sz1 : w1.heap.size + 1 < wr.heap.size := HI.out.row.lt
              obtain ⟨wo, rfl⟩ : ∃ wo : World, wo = wr := ⟨_, rfl⟩
              clear hkd hkk hag hcx hargs hna hkA hkW2 hi0 hz0 hz1 hz2 q0 q1 q2 cm
              go_loopw [13, 66] (fun _ j wi => ∃ (p : Nat) (uv : Value) (ys : List Int), p ≤ na ∧ j = .int .i64 p ∧ ys.length ≤ p ∧ OwnInts wi (wo.heap.size + 2) uv ys ∧ RowAt wi (wo.heap.size + 1) 47 [.int .i64 kd, .int .i64 kk, uv] ∧ Kept wo wi ∧ wo.heap.size + 2 ≤ wi.heap.size) (fun _ j _ => na - (intOf j).toNat)
              case atStart => exact ⟨0, .slice none 0 0, [], Nat.zero_le _, rfl, by simp, OwnInts.nil _ _, by have := RowAt.made (wo.alloc (.cells #[.int .i64 kd, .int .i64 kk, .slice ax na cx] 47)) #[.int .i64 kd, .int .i64 kk, .slice none 0 0] 47; simpa using this, ((Kept.refl _).alloc _).alloc _, by simp⟩
              case round =>
                obtain ⟨p, uv, ys, hp, rfl, hys, hown, hrow, hK, hsz⟩ := hrel
                by_cases hpn : p < na
                · have hpx : p < args.length := by have := HNA.out; omega
                  obtain ⟨b2, o2, rfl, hc0⟩ := HCX.out p hpx
                  have hcell := (HKA.out.trans hK).cell hc0
                  obtain ⟨y, hy⟩ : ∃ y, y = args[p] := ⟨_, rfl⟩
                  have hy2 := HAR.out args[p] (List.getElem_mem _)
                  rw [← hy] at hcell hy2
                  obtain ⟨Y, hY⟩ := Int.eq_ofNat_of_zero_le hy2.1
                  subst hY
                  have hYl : Y < tl.length := by rw [HI.out.tlen]; omega
                  have cT := hK.cell (HI.out.row.cell (i := Y) (by simpa using hYl))
                  obtain ⟨z, hz⟩ : ∃ z, z = tl[Y] := ⟨_, rfl⟩
                  simp only [List.getElem_map] at cT
                  rw [← hz] at cT
                  have hY1 : (Y : Int) < (V : Int) + (n : Int) := by omega
                  have hY2 : (Y : Int) < ((V + n : Nat) : Int) := by omega
                  have cB := hrow.cell (i := 2) (by simp)
                  have fB := hrow.free 2
                  simp only [List.getElem_cons_succ, List.getElem_cons_zero] at cB
                  have hszi : wo.heap.size + 1 < wr.heap.size := by omega
                  have hszj : w1.heap.size + 1 < wr.heap.size := by omega
                  have HOWN := Lib.hid hown
                  have HROW := Lib.hid hrow
                  have HK := Lib.hid hK
                  have hfar : some (wo.heap.size + 1) ≠ uv.ownBlock := by
                    intro e
                    have := (hown.1.lt _ e.symm).1
                    omega
                  have HFAR := Lib.hid hfar
                  clear hc0 hy hz hown hrow hK hfar
                  go_wp2
                  go_region_law ((refine step_append_lies _ (by rfl) _ _ _ (by rfl) (wo.heap.size + 2) 3 i0 _ 1 8 Try.underlying27 I0.out I1.out I2.out I3.out rfl (by omega) uv ys.length _ (by rfl) ((HOWN.out.1.alloc _).drew) ⟨wr.heap.size, 0, none⟩ 1 1 [.int .i64 z] (by rfl) (by rfl) (World.news_of_block (cs := #[.int .i64 z]) (t := 3) (fr := (0, 0)) (heap_alloc_new wr _)) (by simp [Value.oneCell']) (by omega) (by unfold maxLen; omega) (by omega) (by simp; omega) (wr.heap.size + 1) (by simp) ?_; intro gg cap w5 hown5 hgrow hat hlt5; have st5 := hgrow.cell (a := ⟨wo.heap.size + 1, 2, none⟩) (v := uv) (((Kept.refl wr).alloc _).cell cB) HFAR.out; have sf5 := (World.frozen?_of_block (a := ⟨wo.heap.size + 1, 2, none⟩) (hgrow.block (wo.heap.size + 1) (by simp; omega) HFAR.out)).trans ((Below.frozen ((Kept.refl wr).alloc _) (p := ⟨wo.heap.size + 1, 2, none⟩) (by simp; omega)).trans fB)))
                  all_goals go_wp2
                  all_goals
                    have R := arg_step (o := .cells #[.int .i64 z] 3) HOWN.out HROW.out HK.out hsz (by omega) hown5 ⟨hgrow.os, hgrow.tape, hgrow.output, hgrow.size, hgrow.block⟩
                    go_roundw
                    case rel => exact ⟨p + 1, _, _, by omega, by go_num, by simp; omega, R.1, R.2.1, R.2.2.1, R.2.2.2⟩
                    case measure => simp [intOf]; omega
                · obtain ⟨ks, hks⟩ : ∃ ks, ks = kindsUp V R f.nodes k := ⟨_, rfl⟩
                  have hkl := len_kindsUp V R f.nodes k
                  rw [← hks] at HI HUP hkl
                  have HKL := Lib.hid (show ks.length < 100000 by omega)
                  have hkc := (HKW1.out.trans HI.out.kept).trans hK
                  have q0 := hkc.cell (p := ⟨w.heap.size, 0, none⟩) (v := .int .i64 V) (by simp)
                  have hbx := HI.out.box.kept hK
                  have c5 := hbx.cell (i := 1) (by simp)
                  have f5 := hbx.free 1
                  have hrt := HI.out.row.kept hK
                  have cT := hrt.cell (i := V + k) (by simp [HI.out.tlen]; omega)
                  have fT := hrt.free (V + k)
                  have hY1 : (V : Int) + (k : Int) < (V : Int) + (n : Int) := by omega
                  have hY2 : (V : Int) + (k : Int) < ((V + n : Nat) : Int) := by omega
                  have szz : w1.heap.size < wr.heap.size := by omega
                  have hrng : wr.rangeAt (wo.heap.size + 1) 0 [.int .i64 kd, .int .i64 kk, uv] := by
                    intro j v hj
                    match j, hj with
                    | 0, hj => simp at hj; subst hj; exact hrow.cell (i := 0) (by simp)
                    | 1, hj => simp at hj; subst hj; exact hrow.cell (i := 1) (by simp)
                    | 2, hj => simp at hj; subst hj; exact hrow.cell (i := 2) (by simp)
                  simp only [List.getElem_cons_succ, List.getElem_cons_zero] at c5
                  obtain ⟨oa, oc, hov, _⟩ := HI.out.own.at
                  subst hov
                  obtain ⟨on, hon⟩ : ∃ on, on = ks.length := ⟨_, rfl⟩
                  rw [← hon] at HI c5 hbx hkl
                  obtain ⟨ua, un, uc, huv⟩ := hown.ints.shape
                  subst huv
                  have HRNG := Lib.hid (fun x => range_other hrng (p := w1.heap.size + 1) (by omega) (V + k) x)
                  have HRT := Lib.hid hrt
                  have HBX := Lib.hid hbx
                  have HK := Lib.hid hK
                  have HON := Lib.hid hon
                  clear hrng hrt hbx hK hkc hks hrow hown hon
                  have g3 : g < w3.heap.size := HG3
                  have g4 : w1.heap.size + 1 < w3.heap.size := by omega
                  have hok1 := (HI.out.own.kept HK.out)
                  have HOK1 := Lib.hid (fun x => (hok1.below (a := ⟨w1.heap.size + 1, V + k, none⟩) (by show w1.heap.size + 1 < _; omega) x).kept ((Kept.refl _).alloc (.cells #[.int .i64 kd, .int .i64 kk, .slice ua un uc] 47)))
                  have hne5 : some w1.heap.size ≠ (Value.slice oa on oc).ownBlock := by
                    intro e
                    obtain ⟨cells, ho, _⟩ := HI.out.own
                    have := (ho.lt _ e.symm).1
                    omega
                  have HNE5 := Lib.hid hne5
                  have hw3r : w3.heap.size ≤ wr.heap.size := Nat.le_trans HI.out.size HK.out.size
                  clear hok1 hne5
                  go_wp2_with (first
                    | (with_reducible refine wpList_load_mid rfl 47 _ rfl (wo.heap.size + 1) 0 rfl _ _ (HRNG.out _) Try.underlying47 rfl (by kernel_rfl) ?_)
                    | (at_builtin; refine app_kind rfl _ _ rfl w3.heap.size _ ks rfl (HOK1.out _) _ kd kk ua un uc rfl (range_madeS _ _ _ _ _ _ _) HKL.out (by simp [World.setCell]; omega) ?_; intro nv w6 hown6 hg6 hb6; obtain ⟨xa, xc, rfl, _⟩ := hown6.at; have HOWN6 := Lib.hid hown6; clear hown6; have st5 := hg6.cell (a := ⟨w1.heap.size, 1, none⟩) (v := .slice oa on oc) (((Kept.refl _).alloc _).cell (cell_other c5 (p := w1.heap.size + 1) (by show w1.heap.size ≠ _; omega) _ _)) HNE5.out; have sf5 := (World.frozen?_of_block (a := ⟨w1.heap.size, 1, none⟩) (hg6.block w1.heap.size (by simp [World.setCell]; omega) HNE5.out)).trans (((Kept.refl _).alloc _).free (p := ⟨w1.heap.size, 1, none⟩) (by simp [World.setCell]; omega) (free_other f5 (p := w1.heap.size + 1) (by show w1.heap.size ≠ _; omega) _ _))))
                  have RI := inv_step (kd := kd) (t := (V : Int) + (on : Int)) HI.out HK.out g4 hg2 g3 HOWN6.out ⟨hg6.os, hg6.tape, hg6.output, hg6.size, hg6.block⟩
                  rw [show (ks ++ [kd]).length = ks.length + 1 by simp] at RI
                  go_roundw
                  case rel => exact ⟨k + 1, _, _, by omega, by go_num, by rw [HUP.out, HMK.out, if_pos rfl, show (f.nodes.getD k noNd).kind = kd by rw [HKD.out]; simp [List.getD_eq_getElem?_getD, hkx]]; exact RI⟩
                  case measure => simp [intOf]; omega
          · have e : k = n := by omega
            subst e
            obtain ⟨oa, oc, hov, _⟩ := hinv.own.at
            subst hov
            have hbx := hinv.box
            have c0 := hbx.cell (i := 0) (by simp)
            have c1 := hbx.cell (i := 1) (by simp)
            have c2 := hbx.cell (i := 2) (by simp)
            have f2 := hbx.free 2
            have hTl : T < tl.length := by rw [hinv.tlen]; omega
            obtain ⟨zt, cT⟩ : ∃ z : Int, wr.cell? ⟨w1.heap.size + 1, T, none⟩ = some (.int .i64 z) := ⟨tl[T], by have := hinv.row.cell (i := T) (by simpa using hTl); rw [List.getElem_map] at this; exact this⟩
            have hY1 : (T : Int) < (V : Int) + (k : Int) := by omega
            have hY2 : (T : Int) < ((V + k : Nat) : Int) := by omega
            have hres : RowAt wr (w.heap.size + 1) 24 [.int .i64 0, .slice none 0 0, .int .i64 0] := by
              have := (RowAt.made (w.alloc (.cells #[.int .i64 V, .slice a k c, .int .i64 T] 24)) #[.int .i64 0, .slice none 0 0, .int .i64 0] 24).kept hkW2
              simpa using this
            have r0 := hres.cell (i := 0) (by simp)
            have r1 := hres.cell (i := 1) (by simp)
            have r2 := hres.cell (i := 2) (by simp)
            have s0 := hres.free 0
            have s1 := hres.free 1
            have s2 := hres.free 2
            simp only [List.getElem_cons_succ, List.getElem_cons_zero] at r0 r1 r2
            simp only [List.getElem_cons_succ, List.getElem_cons_zero] at c0 c1 c2
            have HI := Lib.hid hinv
            have ne1 : w1.heap.size ≠ w.heap.size + 1 := by omega
            have ne2 : w.heap.size + 1 ≠ w1.heap.size := by omega
            clear hinv hbx hres
            go_wp2
            refine bodyPost_ret (v := .tuple #[.agg #[.int .i64 V, .slice oa (kindsUp V R f.nodes k).length oc, .int .i64 zt], .nilIface]) ?_ rfl ⟨_, _, rfl, ?_, ?_⟩
            · simp [results, Try.results35, go_sem, r0, r1, r2]
            · rw [← HRe.out]
              have h3 : w1.heap.size + 1 < w3.heap.size := by omega
              exact ((((HI.out.own.below (a := ⟨w1.heap.size, 2, none⟩) (by show w1.heap.size < _; omega) _).below (a := ⟨w.heap.size + 1, 0, none⟩) (by show w.heap.size + 1 < _; omega) _).below (a := ⟨w.heap.size + 1, 1, none⟩) (by show w.heap.size + 1 < _; omega) _).below (a := ⟨w.heap.size + 1, 2, none⟩) (by show w.heap.size + 1 < _; omega) _).at
            · have hkA : Kept w wr := (((Kept.refl w).alloc _).alloc _).trans hkW2
              exact (((hkA.store (by omega) _ _).store (by omega) _ _).store (by omega) _ _).store (by omega) _ _
end Go.Proofs.Ytcgfjacidjebaaa
