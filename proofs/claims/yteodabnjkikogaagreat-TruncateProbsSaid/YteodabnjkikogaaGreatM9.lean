import Derived.WalkKit
import Derived.WalkSpells
import Derived.WalkLawsBesides
import Derived.Deep.QuietTactic
import Derived.BigQuiet
import Derived.Lib.Hide
import Derived.Shelf.Abstract
import Derived.Deep.RegionWith
import Derived.Laws.AppendOwnNone
import Derived.Lib.AppendZerosOnto
import Derived.Lib.SliceRun
import Derived.Lib.SlicesCompact
import Derived.Shelf.SlSortCmp.NoneTotal
import Derived.Maps.OwnOps
import Derived.Maps.OwnSet
import Derived.Maps.Views
import Derived.Deep.MidRow
import Derived.Deep.RegionHeld3
import Derived.Deep.AppendLies
import Derived.Deep.RegionLaw
import Derived.IntWalk
import Derived.StillTailTactics
import Derived.RegionTactic
import Derived.BigRegion
import Derived.ChangeAlike
import Derived.Sort.LotD2
import Derived.Sort.LotA
import Derived.Shelf.SlSortCmp.PdqK
import Derived.Deep.DeepCutAuto
import Derived.Lib.ItoaNum
import Derived.Deep.LoopGhost
import Derived.ProofKit
import Derived.OpenShut
import Derived.SizedLaws
import Derived.Lib.SmallJoins
import Derived.Deep.Slices
import Derived.Deep.Fields
import Derived.Deep.Strs
import Derived.Carry
import Derived.Lib.BitFns
import Derived.Deep.CutBlock
import Derived.Test.YteodabnjkikogaaGreatM8
import Derived.Test.YteodabnjkikogaaGreatM6
import Derived.Test.YteodabnjkikogaaGreatM2
import Derived.Test.YteodabnjkikogaaGreatM1
/-
  Walks: truncate.ByOrder.
-/
namespace Go.Proofs.YteodabnjkikogaaGreat.Tr
open Go.RowKit

/-- What ByOrder answers to a formula that Check accepts: error, kept, frontier. -/
def byR (V T : Nat) (f : Fm) (k : Int) : Nat × List Nat × List Nat :=
  if synK V T f = false then (7, [], []) else if k < 0 ∨ 24 < k then (3, [], []) else
    match topT V T (overP k) f.nodes with
    | none => (4, [], [])
    | some p => (0, p.1, p.2)
theorem minK_evW {R : List Nat} (hg : Good R) (hm : ∀ r ∈ R, r < 16777216) : minK (R.map evW) = R := by
  have : R.map evW = R := by
    have := List.map_congr_left (l := R) (f := evW) (g := id) fun r hr => evW_of_lt (hm r hr)
    simpa using this
  rw [this]
  exact hg.1
theorem cut_row (w : World) (a b c : Obj) (h : c = .cells #[.slice none 0 0, .slice none 0 0] 34) : RowAt (((w.alloc a).alloc b).alloc c) (w.heap.size + 1 + 1) 34 [.slice none 0 0, .slice none 0 0] := by
  subst h
  have := RowAt.made ((w.alloc a).alloc b) #[.slice none 0 0, .slice none 0 0] 34
  simpa using this
theorem fm_cells3 {w w1 : World} {x y z : Value} {e : TypeId} {o2 o3 : Obj} (hk : Kept (((w.alloc (.cells #[x, y, z] e)).alloc o2).alloc o3) w1) : w1.cell? ⟨w.heap.size, 0, none⟩ = some x ∧ w1.cell? ⟨w.heap.size, 1, none⟩ = some y ∧ w1.cell? ⟨w.heap.size, 2, none⟩ = some z :=
  ⟨hk.cell ((((Kept.refl _).alloc o2).alloc o3).cell (p := ⟨w.heap.size, 0, none⟩) (by simp)), hk.cell ((((Kept.refl _).alloc o2).alloc o3).cell (p := ⟨w.heap.size, 1, none⟩) (by simp)), hk.cell ((((Kept.refl _).alloc o2).alloc o3).cell (p := ⟨w.heap.size, 2, none⟩) (by simp))⟩
theorem box_cell3 {w w1 : World} {x : Value} {e : TypeId} {o1 o3 : Obj} (hk : Kept (((w.alloc o1).alloc (.cells #[x] e)).alloc o3) w1) : w1.cell? ⟨w.heap.size + 1, 0, none⟩ = some x := by
  have h := (((RowAt.made (w.alloc o1) #[x] e).kept ((Kept.refl _).alloc o3)).kept hk).cell (i := 0) (by simp)
  simpa using h
/-- Ints stay where a row of other cells is written. -/
theorem ints_store {w : World} {g j : Nat} {e : TypeId} {cs : List Value} {v u : Value} {xs : List Int} (hr : RowAt w g e cs) (hj : j < cs.length) (hc : ∀ z, cs[j] ≠ .int .i64 z) (h : IntsAt w v xs) : IntsAt (w.setCell ⟨g, j, none⟩ u) v xs := by
  obtain ⟨a, c, h1, h2, h3, h4⟩ := h
  refine ⟨a, c, h1, h2, h3, fun i hi => ?_⟩
  obtain ⟨b, o, h5, h6⟩ := h4 i hi
  refine ⟨b, o, h5, ?_⟩
  by_cases hb : (⟨b, o + i, none⟩ : Addr) = ⟨g, j, none⟩
  · rw [hb, hr.cell hj] at h6
    exact absurd (Option.some.inj h6) (hc _)
  · rw [World.cell?_setCell_other w _ _ u (fun e => hb e.symm)]; exact h6
theorem cutoff_ints {w : World} {g : Nat} {e : TypeId} {v u0 u1 : Value} {xs : List Int} (hr : RowAt w g e [.slice none 0 0, .slice none 0 0]) (h0 : ∃ a n c, u0 = .slice a n c) (h : IntsAt w v xs) : IntsAt ((w.setCell ⟨g, 0, none⟩ u0).setCell ⟨g, 1, none⟩ u1) v xs := by
  have h1 := ints_store (j := 0) (u := u0) hr (by simp) (by simp) h
  have h2 := hr.store 0 u0
  obtain ⟨_, _, _, rfl⟩ := h0
  exact ints_store (j := 1) h2 (by simp) (by simp) h1
set_option maxRecDepth 100000 in
set_option maxHeartbeats 2000000 in
theorem tby_err (v : Value) (f : Fm) (k : Int) (w : World) (hv : NodesAt w v f.nodes) (ht : f.top ≤ 9223372036854775807) (hck : chkF f ≠ 0) :
    Calls Tryz.prog 27 #[fmV v f, .int .i64 k] w fun e w' => e = .returned (.tuple #[.agg #[.slice none 0 0, .slice none 0 0], errV (chkF f)]) ∧ Kept w w' := by
  have HC := Lib.hid (fun W (hk : Kept w W) => coher_err v f W (hv.kept hk) ht hck)
  have E2 := Lib.hid (errV_pos hck)
  obtain ⟨q, hq⟩ : ∃ q, q = chkF f := ⟨_, rfl⟩
  obtain ⟨a, c, rfl, hrest⟩ := hv
  clear hrest ht hck
  generalize f.nodes.length = n at *
  obtain ⟨vars, nodes, top⟩ := f
  unfold fmV at *
  simp only at HC E2 ⊢
  rw [← hq] at HC E2 ⊢
  clear hq
  rw [E2.out] at HC ⊢
  go_enter Tryz.func27, Tryz.ntmps27
  go_wp2_with (go_at_call 30; refine (HC.out _ ((((Kept.refl _).alloc _).alloc _).alloc _)).mono ?_; rintro e w1 ⟨rfl, hk1⟩; have ht4 := (cut_row w _ _ _ rfl).kept hk1; have g0 := ht4.cell (i := 0) (by simp); have g1 := ht4.cell (i := 1) (by simp); have g2 := ht4.free 0; have g3 := ht4.free 1; simp only [List.getElem_cons_succ, List.getElem_cons_zero] at g0 g1; have HK1 := Lib.hid (((((Kept.refl _).alloc _).alloc _).alloc _).trans hk1); clear hk1 ht4)
  refine bodyPost_ret (v := .tuple #[.agg #[.slice none 0 0, .slice none 0 0], .iface 56 (.int .i64 q)]) ?_ rfl ⟨rfl, (HK1.out.store (by omega) 0 _).store (by omega) 1 _⟩
  simp [results, Tryz.results27, go_sem, g0, g1]
set_option maxRecDepth 100000 in
set_option maxHeartbeats 4000000 in
theorem tby_any (v : Value) (f : Fm) (V T : Nat) (k : Int) (w : World) (hv : NodesAt w v f.nodes) (hok : Ok f V T) (hck : chkF f = 0) :
    Calls Tryz.prog 27 #[.agg #[.int .i64 V, v, .int .i64 T], .int .i64 k] w fun e w' => (∃ kv fv, e = .returned (.tuple #[.agg #[kv, fv], errV (byR V T f k).1]) ∧ IntsAt w' kv (ofN (byR V T f k).2.1) ∧ IntsAt w' fv (ofN (byR V T f k).2.2)) ∧ Kept w w' := by
  have HC := Lib.hid (fun W (hk : Kept w W) => coher_ok v f V T W (hv.kept hk) hok hck)
  have HV := Lib.hid hv
  have hsh : ∃ a n c, v = .slice a n c := by obtain ⟨a, c, h, _⟩ := hv; exact ⟨a, _, c, h⟩
  obtain ⟨a, n, c, rfl⟩ := hsh
  cases hsy : synK V T f with
  | false =>
    have e7 : byR V T f k = (7, [], []) := by unfold byR; rw [if_pos hsy]
    rw [e7]
    rw [hsy] at HC
    simp only [Bool.false_eq_true, if_false] at HC
    rw [errV_pos (by decide)] at HC ⊢
    clear hv hok hck hsy e7
    go_enter Tryz.func27, Tryz.ntmps27
    go_wp2_with (go_at_call 30; refine (HC.out _ ((((Kept.refl _).alloc _).alloc _).alloc _)).mono ?_; rintro e w1 ⟨rfl, hk1⟩; have ht4 := (cut_row w _ _ _ rfl).kept hk1; have g0 := ht4.cell (i := 0) (by simp); have g1 := ht4.cell (i := 1) (by simp); have g2 := ht4.free 0; have g3 := ht4.free 1; simp only [List.getElem_cons_succ, List.getElem_cons_zero] at g0 g1; have HK1 := Lib.hid (((((Kept.refl _).alloc _).alloc _).alloc _).trans hk1); clear hk1 ht4)
    refine bodyPost_ret (v := .tuple #[.agg #[.slice none 0 0, .slice none 0 0], .iface 56 (.int .i64 (7 : Nat))]) ?_ rfl ⟨⟨_, _, rfl, IntsAt.nil _, IntsAt.nil _⟩, (HK1.out.store (by omega) 0 _).store (by omega) 1 _⟩
    simp [results, Tryz.results27, go_sem, g0, g1]
  | true =>
    rw [hsy] at HC
    simp only [if_true] at HC
    rw [errV_zero] at HC
    by_cases hr : k < 0 ∨ 24 < k
    · have e3 : byR V T f k = (3, [], []) := by unfold byR; rw [if_neg (by simp [hsy]), if_pos hr]
      rw [e3]
      rw [errV_pos (by decide)]
      clear hv hok hck hsy e3
      have b0 : (decide (k < 0) || decide (24 < k)) = true := by simpa using hr
      rcases hr with hr | hr
      all_goals
        go_enter Tryz.func27, Tryz.ntmps27
        go_wp2_with (go_at_call 30; refine (HC.out _ ((((Kept.refl _).alloc _).alloc _).alloc _)).mono ?_; rintro e w1 ⟨rfl, hk1⟩; have ht4 := (cut_row w _ _ _ rfl).kept hk1; have g0 := ht4.cell (i := 0) (by simp); have g1 := ht4.cell (i := 1) (by simp); have g2 := ht4.free 0; have g3 := ht4.free 1; simp only [List.getElem_cons_succ, List.getElem_cons_zero] at g0 g1; have k0 := box_cell3 hk1; have HK1 := Lib.hid (((((Kept.refl _).alloc _).alloc _).alloc _).trans hk1); clear hk1 ht4)
        refine bodyPost_ret (v := .tuple #[.agg #[.slice none 0 0, .slice none 0 0], .iface 56 (.int .i64 (3 : Nat))]) ?_ rfl ⟨⟨_, _, rfl, IntsAt.nil _, IntsAt.nil _⟩, (HK1.out.store (by omega) 0 _).store (by omega) 1 _⟩
        simp [results, Tryz.results27, go_sem, g0, g1]
    · have hr0 : ¬ k < 0 := fun h => hr (.inl h)
      have hr1 : ¬ 24 < k := fun h => hr (.inr h)
      have HRUN : Hid (∀ W bk, Kept w W → W.cell? ⟨bk, 0, none⟩ = some (.int .i64 k) → Calls Tryz.prog 33 #[.agg #[.int .i64 V, .slice a n c, .int .i64 T], .func (.func 62) #[] #[.pointer (some ⟨bk, 0, none⟩)]] W fun e w' => TRes w' e (topT V T (overP k) f.nodes) ∧ Kept W w') := Lib.hid fun W bk hk hc => trun_any _ f V T bk k W (hv.kept hk) hok hsy hc
      have e0 : byR V T f k = match topT V T (overP k) f.nodes with | none => (4, [], []) | some p => (0, p.1, p.2) := by unfold byR; rw [if_neg (by simp [hsy]), if_neg hr]
      cases hto : topT V T (overP k) f.nodes with
      | none =>
        rw [hto] at HRUN e0
        simp only at e0
        rw [e0, errV_pos (by decide)]
        unfold TRes at HRUN
        rw [errV_pos (by decide)] at HRUN
        clear hv hok hck hsy e0 hr hto
        go_enter Tryz.func27, Tryz.ntmps27
        go_wp2_with (first | (go_at_call 30; refine (HC.out _ ((((Kept.refl _).alloc _).alloc _).alloc _)).mono ?_; rintro e w1 ⟨rfl, hk1⟩; have ht4 := (cut_row w _ _ _ rfl).kept hk1; have HT4 := Lib.hid ht4; have k0 := box_cell3 hk1; obtain ⟨c0, c1, c2⟩ := fm_cells3 hk1; have HK1 := Lib.hid (((((Kept.refl _).alloc _).alloc _).alloc _).trans hk1); clear hk1 ht4) | (go_at_call 33; refine (HRUN.out _ _ HK1.out k0).mono ?_; rintro e w2 ⟨rfl, hk2⟩; have ht4 := HT4.out.kept hk2; have g0 := ht4.cell (i := 0) (by simp); have g1 := ht4.cell (i := 1) (by simp); have g2 := ht4.free 0; have g3 := ht4.free 1; simp only [List.getElem_cons_succ, List.getElem_cons_zero] at g0 g1; have HK2 := Lib.hid (HK1.out.trans hk2); clear hk2 ht4))
        refine bodyPost_ret (v := .tuple #[.agg #[.slice none 0 0, .slice none 0 0], .iface 56 (.int .i64 (4 : Nat))]) ?_ rfl ⟨⟨_, _, rfl, IntsAt.nil _, IntsAt.nil _⟩, (HK2.out.store (by omega) 0 _).store (by omega) 1 _⟩
        simp [results, Tryz.results27, go_sem, g0, g1]
      | some p =>
        rw [hto] at HRUN e0
        simp only at e0
        rw [e0, errV_zero]
        have hT := topT_says hok hsy (overP k) hto
        unfold TRes at HRUN
        simp only [minK_evW hT.goodR hT.mkR, errV_zero] at HRUN
        clear hv hok hck hsy e0 hr hto hT
        go_enter Tryz.func27, Tryz.ntmps27
        go_wp2_with (first | (go_at_call 30; refine (HC.out _ ((((Kept.refl _).alloc _).alloc _).alloc _)).mono ?_; rintro e w1 ⟨rfl, hk1⟩; have ht4 := (cut_row w _ _ _ rfl).kept hk1; have HT4 := Lib.hid ht4; have k0 := box_cell3 hk1; obtain ⟨c0, c1, c2⟩ := fm_cells3 hk1; have HK1 := Lib.hid (((((Kept.refl _).alloc _).alloc _).alloc _).trans hk1); clear hk1 ht4) | (go_at_call 33; refine (HRUN.out _ _ HK1.out k0).mono ?_; rintro e w2 ⟨⟨kv, fv, rfl, hkv, hfv⟩, hk2⟩; obtain ⟨ka, kn, kc, rfl⟩ := hkv.shape; obtain ⟨fa, fn, fc, rfl⟩ := hfv.shape; have HKV := Lib.hid hkv; have HFV := Lib.hid hfv; have hst4 := HT4.out.kept hk2; have g0 := hst4.cell (i := 0) (by simp); have g1 := hst4.cell (i := 1) (by simp); have g2 := hst4.free 0; have g3 := hst4.free 1; simp only [List.getElem_cons_succ, List.getElem_cons_zero] at g0 g1; have HS4 := Lib.hid hst4; have HK2 := Lib.hid (HK1.out.trans hk2); clear hk2 hst4 hkv hfv))
        refine bodyPost_ret (v := .tuple #[.agg #[.slice ka kn kc, .slice fa fn fc], .nilIface]) ?_ rfl ⟨⟨_, _, rfl, ?_, ?_⟩, (HK2.out.store (by omega) 0 _).store (by omega) 1 _⟩
        · simp [results, Tryz.results27, go_sem, g0, g1]
        · exact cutoff_ints HS4.out ⟨_, _, _, rfl⟩ HKV.out
        · exact cutoff_ints HS4.out ⟨_, _, _, rfl⟩ HFV.out
end Go.Proofs.YteodabnjkikogaaGreat.Tr

/-
  Walks: truncate.ByProb's closure, ByProb. Printed by gen_Y33.py.
-/
namespace Go.Proofs.YteodabnjkikogaaGreat
open Go.RowKit

/-- Whether a set of events is less likely than a limit. -/
def overQ (ps : List Rw) (lim : Rat) (e : Nat) : Bool := decide (sgnR (prodQ e ps ps.length - lim) < 0)
/-- What ByProb answers to a formula that Check accepts: error, kept, frontier. -/
def byPR (V T : Nat) (f : Fm) (ps : List Rw) (l : Rw) : Nat × List Nat × List Nat :=
  if synK V T f = false then (7, [], []) else if ps.length ≠ V then (11, [], []) else if badR ps = true then (3, [], []) else if probR l = false then (3, [], []) else
    match topT V T (overQ ps (ratOf l)) f.nodes with
    | none => (4, [], [])
    | some p => (0, p.1, p.2)
set_option maxRecDepth 100000 in
set_option maxHeartbeats 4000000 in
theorem over_prob (ps : List Rw) (l : Rw) (e bk bl pn pc : Nat) (pa : Option Addr) (w : World) (hb : w.cell? ⟨bk, 0, none⟩ = some (.slice pa pn pc)) (hv : RatsAt w (.slice pa pn pc) ps) (h3 : ∀ r ∈ ps, r.Short 3) (h30 : ps.length ≤ 30) (hl : RatCell w bl l) (hl3 : l.Short 3) (he : Mk e) :
    Calls Tryz.prog 34 #[.int .i64 e, .pointer (some ⟨bk, 0, none⟩), .pointer (some ⟨bl, 0, none⟩)] w fun e' w' => e' = .returned (.bool (overQ ps (ratOf l) e)) ∧ Kept w w' := by
  have HP := Lib.hid (fun W (hk : Kept w W) => product_rat e _ ps W (by unfold Mk at he; omega) (hv.kept hk) h3 h30)
  have hsh := prod_short (s := e) h3 hv.ok ps.length (Nat.le_refl _)
  obtain ⟨a1, c1, a2, c2, ⟨x0, x1, x2⟩, _, hbl, hla⟩ := hl.at
  have HC : Hid (∀ W u, Kept w W → RatAt W u (canR (prodQ e ps ps.length)) → Calls Tryz.prog 24 #[u, .agg #[.bool l.neg, .slice a1 l.num.length c1, .slice a2 l.den.length c2]] W fun e' w' => e' = .returned (.int .i64 (sgnR (prodQ e ps ps.length - ratOf l))) ∧ Kept W w') := Lib.hid fun W u hk hu => by
    have h := rcmp_any u _ _ l W hu (hla.kept hk) ⟨Nat.le_trans hsh.1 (by omega), Nat.le_trans hsh.2 (by omega)⟩ ⟨Nat.le_trans hl3.1 (by omega), Nat.le_trans hl3.2 (by omega)⟩
    rw [ratOf_can] at h
    exact h
  unfold overQ
  generalize sgnR (prodQ e ps ps.length - ratOf l) = S at *
  generalize canR (prodQ e ps ps.length) = R at *
  generalize l.neg = z1 at *
  generalize l.num.length = z2 at *
  generalize l.den.length = z3 at *
  have y0 := ((Kept.refl w).drew).cell hb
  have y1 := ((Kept.refl w).drew).cell x0
  have y2 := ((Kept.refl w).drew).cell x1
  have y3 := ((Kept.refl w).drew).cell x2
  clear hv hl h3 hl3 he hsh hla
  go_enter Tryz.func34, Tryz.ntmps34
  go_wp2
  go_region_with (first
    | (go_at_call 35; (with_reducible refine (HP.out _ (Kept.refl _).drew).mono ?_); rintro e w3 ⟨⟨v3, rfl, hv3⟩, hk3⟩; have hkd := (Kept.refl w).drew.trans hk3; have i1 := hkd.cell x0; have i2 := hkd.cell x1; have i3 := hkd.cell x2; have HV3 := Lib.hid hv3; have HKD := Lib.hid hkd; clear hv3 hk3 hkd)
    | (go_at_call 24; (with_reducible refine (HC.out _ _ HKD.out HV3.out).mono ?_); rintro e w4 ⟨rfl, hk4⟩; have HK4 := Lib.hid (HKD.out.trans hk4); clear hk4))
  all_goals
    go_wp2
    go_ret
    exact ⟨rfl, HK4.out⟩
set_option maxRecDepth 100000 in
set_option maxHeartbeats 8000000 in
theorem tbyP_any (v pv lv : Value) (f : Fm) (V T : Nat) (ps : List Rw) (l : Rw) (w : World) (hv : NodesAt w v f.nodes) (hok : Ok f V T) (hck : chkF f = 0) (hp : RatsAt w pv ps) (h3 : ∀ r ∈ ps, r.Short 3) (h30 : ps.length ≤ 30) (hl : RatAt w lv l) (hl3 : l.Short 3) :
    Calls Tryz.prog 10 #[.agg #[.int .i64 V, v, .int .i64 T], pv, lv] w fun e w' => (∃ kv fv, e = .returned (.tuple #[.agg #[kv, fv], errV (byPR V T f ps l).1]) ∧ IntsAt w' kv (ofN (byPR V T f ps l).2.1) ∧ IntsAt w' fv (ofN (byPR V T f ps l).2.2)) ∧ Kept w w' := by
  have HC := Lib.hid (fun W (hk : Kept w W) => Tr.coher_ok v f V T W (hv.kept hk) hok hck)
  have hsh : ∃ a n c, v = .slice a n c := by obtain ⟨a, c, h, _⟩ := hv; exact ⟨a, _, c, h⟩
  have HV := Lib.hid hv
  have HP := Lib.hid hp
  have H3 := Lib.hid h3
  have HL3 := Lib.hid hl3
  have HOK := Lib.hid hok
  have HBA := Lib.hid (fun W (h : Kept w W) => bad_any pv ps W (hp.kept h) (fun r hr => ⟨Nat.le_trans (h3 r hr).1 (by omega), Nat.le_trans (h3 r hr).2 (by omega)⟩))
  have HPR := Lib.hid (fun W (h : Kept w W) => rprob_any lv l W (hl.kept h) ⟨Nat.le_trans hl3.1 (by omega), Nat.le_trans hl3.2 (by omega)⟩)
  obtain ⟨a, n, c, rfl⟩ := hsh
  obtain ⟨pa, pc, hps⟩ := hp.shape
  obtain ⟨pn, hpn⟩ : ∃ pn, pn = ps.length := ⟨_, rfl⟩
  rw [← hpn] at hps h30
  subst hps
  obtain ⟨u1, u2, rfl, k1, k2⟩ := hl
  obtain ⟨a1, c1, rfl⟩ := k1.shape
  obtain ⟨a2, c2, rfl⟩ := k2.shape
  obtain ⟨w4, hw4⟩ : ∃ w4, w4 = (((w.alloc (.cells #[.int .i64 V, .slice a n c, .int .i64 T] 24)).alloc (.cells #[.slice pa pn pc] 25)).alloc (.cells #[.bool l.neg, .slice a1 l.num.length c1, .slice a2 l.den.length c2] 28)).alloc (.cells #[.slice none 0 0, .slice none 0 0] 34) := ⟨_, rfl⟩
  have HBF : Hid (RowAt w4 w.heap.size 24 [.int .i64 V, .slice a n c, .int .i64 T]) := Lib.hid (by rw [hw4]; exact (RowAt.made w #[.int .i64 V, .slice a n c, .int .i64 T] 24).kept ((((Kept.refl _).alloc _).alloc _).alloc _))
  have HBP : Hid (RowAt w4 (w.heap.size + 1) 25 [.slice pa pn pc]) := Lib.hid (by
    have h := (RowAt.made (w.alloc (.cells #[.int .i64 V, .slice a n c, .int .i64 T] 24)) #[.slice pa pn pc] 25).kept (((Kept.refl _).alloc (.cells #[.bool l.neg, .slice a1 l.num.length c1, .slice a2 l.den.length c2] 28)).alloc (.cells #[.slice none 0 0, .slice none 0 0] 34))
    rw [← hw4] at h
    simpa using h)
  have HRC : Hid (RatCell w4 (w.heap.size + 1 + 1) l) := Lib.hid (by
    have h := (RatCell.made (w := (w.alloc (.cells #[.int .i64 V, .slice a n c, .int .i64 T] 24)).alloc (.cells #[.slice pa pn pc] 25)) (r := l) (k1.kept (((Kept.refl _).alloc _).alloc _)) (k2.kept (((Kept.refl _).alloc _).alloc _))).kept ((Kept.refl _).alloc (.cells #[.slice none 0 0, .slice none 0 0] 34))
    rw [← hw4] at h
    simpa using h)
  have HLC : Hid (RowAt w4 (w.heap.size + 1 + 1) 28 [.bool l.neg, .slice a1 l.num.length c1, .slice a2 l.den.length c2]) := Lib.hid (by
    have h := (RowAt.made ((w.alloc (.cells #[.int .i64 V, .slice a n c, .int .i64 T] 24)).alloc (.cells #[.slice pa pn pc] 25)) #[.bool l.neg, .slice a1 l.num.length c1, .slice a2 l.den.length c2] 28).kept ((Kept.refl _).alloc (.cells #[.slice none 0 0, .slice none 0 0] 34))
    rw [← hw4] at h
    simpa using h)
  have HRS : Hid (RowAt w4 (w.heap.size + 1 + 1 + 1) 34 [.slice none 0 0, .slice none 0 0]) := Lib.hid (by
    have h := RowAt.made (((w.alloc (.cells #[.int .i64 V, .slice a n c, .int .i64 T] 24)).alloc (.cells #[.slice pa pn pc] 25)).alloc (.cells #[.bool l.neg, .slice a1 l.num.length c1, .slice a2 l.den.length c2] 28)) #[.slice none 0 0, .slice none 0 0] 34
    rw [← hw4] at h
    simpa using h)
  have HK0 : Hid (Kept w w4) := Lib.hid (by rw [hw4]; exact ((((Kept.refl w).alloc _).alloc _).alloc _).alloc _)
  have HW4 := Lib.hid hw4
  have HPN := Lib.hid hpn
  generalize hz1 : l.neg = z1 at *
  generalize hz2 : l.num.length = z2 at *
  generalize hz3 : l.den.length = z3 at *
  have HZ := Lib.hid (And.intro hz1 (And.intro hz2 hz3))
  clear hz1 hz2 hz3 hv hp h3 hl3 hok hck k1 k2 hw4 hpn
  have b0 := HBF.out.cell (i := 0) (by simp)
  have b1 := HBF.out.cell (i := 1) (by simp)
  have b2 := HBF.out.cell (i := 2) (by simp)
  have bp := HBP.out.cell (i := 0) (by simp)
  simp only [List.getElem_cons_zero] at bp
  simp only [List.getElem_cons_succ, List.getElem_cons_zero] at b0 b1 b2
  have l0 := HLC.out.cell (i := 0) (by simp)
  have l1 := HLC.out.cell (i := 1) (by simp)
  have l2 := HLC.out.cell (i := 2) (by simp)
  simp only [List.getElem_cons_succ, List.getElem_cons_zero] at l0 l1 l2
  cases hsy : synK V T f with
  | false =>
    have e7 : byPR V T f ps l = (7, [], []) := by unfold byPR; rw [if_pos hsy]
    rw [e7]
    rw [hsy] at HC
    simp only [Bool.false_eq_true, if_false] at HC
    rw [errV_pos (by decide)] at HC ⊢
    clear hsy e7
    go_enter Tryz.func10, Tryz.ntmps10
    go_wp2_with fail
    rw [← HW4.out]
    refine (HC.out _ HK0.out).mono ?_
    rintro e w5 ⟨rfl, hk5⟩
    have HT := Lib.hid (HRS.out.kept hk5)
    have HKE := Lib.hid (HK0.out.trans hk5)
    clear hk5
    have g0 := HT.out.cell (i := 0) (by simp)
    have g1 := HT.out.cell (i := 1) (by simp)
    have g2 := HT.out.free 0
    have g3 := HT.out.free 1
    have hlt := HT.out.lt
    simp only [List.getElem_cons_succ, List.getElem_cons_zero] at g0 g1
    go_wp2
    refine bodyPost_ret (v := .tuple #[.agg #[.slice none 0 0, .slice none 0 0], .iface 56 (.int .i64 (7 : Nat))]) ?_ rfl ⟨⟨_, _, rfl, IntsAt.nil _, IntsAt.nil _⟩, (HKE.out.store (by omega) 0 _).store (by omega) 1 _⟩
    simp [results, Tryz.results10, go_sem, g0, g1]
  | true =>
    rw [hsy] at HC
    simp only [if_true] at HC
    rw [errV_zero] at HC
    by_cases hlen : pn = V
    · cases hbad : badR ps with
      | true =>
        have e3 : byPR V T f ps l = (3, [], []) := by unfold byPR; rw [if_neg (by simp [hsy]), if_neg (by have := HPN.out; omega), if_pos hbad]
        rw [e3]
        rw [errV_pos (by decide)]
        rw [hbad] at HBA
        have hne : ((pn : Int) == (V : Int)) = true := by simp; omega
        have hne2 : ((pn : Int) != (V : Int)) = false := by simp [bne]; omega
        clear hsy e3 hbad hlen
        go_enter Tryz.func10, Tryz.ntmps10
        go_wp2_with fail
        rw [← HW4.out]
        refine (HC.out _ HK0.out).mono ?_
        rintro e w5 ⟨rfl, hk5⟩
        have HT5 := Lib.hid (HRS.out.kept hk5)
        have HK5 := Lib.hid (HK0.out.trans hk5)
        have HK05 := Lib.hid hk5
        have b50 := hk5.cell b0
        have b51 := hk5.cell b1
        have b52 := hk5.cell b2
        have l50 := hk5.cell l0
        have l51 := hk5.cell l1
        have l52 := hk5.cell l2
        have b5p := hk5.cell bp
        clear hk5
        go_wp2_with fail
        refine (HBA.out _ HK5.out).mono ?_
        rintro e w6 ⟨rfl, hk6⟩
        have HT := Lib.hid (HT5.out.kept hk6)
        have HKE := Lib.hid (HK5.out.trans hk6)
        clear hk6
        have g0 := HT.out.cell (i := 0) (by simp)
        have g1 := HT.out.cell (i := 1) (by simp)
        have g2 := HT.out.free 0
        have g3 := HT.out.free 1
        have hlt := HT.out.lt
        simp only [List.getElem_cons_succ, List.getElem_cons_zero] at g0 g1
        go_wp2
        refine bodyPost_ret (v := .tuple #[.agg #[.slice none 0 0, .slice none 0 0], .iface 56 (.int .i64 (3 : Nat))]) ?_ rfl ⟨⟨_, _, rfl, IntsAt.nil _, IntsAt.nil _⟩, (HKE.out.store (by omega) 0 _).store (by omega) 1 _⟩
        simp [results, Tryz.results10, go_sem, g0, g1]
      | false =>
        rw [hbad] at HBA
        cases hpr : probR l with
        | false =>
          have e3 : byPR V T f ps l = (3, [], []) := by unfold byPR; rw [if_neg (by simp [hsy]), if_neg (by have := HPN.out; omega), if_neg (by simp [hbad]), if_pos hpr]
          rw [e3]
          rw [errV_pos (by decide)]
          rw [hpr] at HPR
          have hne : ((pn : Int) == (V : Int)) = true := by simp; omega
          have hne2 : ((pn : Int) != (V : Int)) = false := by simp [bne]; omega
          clear hsy e3 hbad hpr hlen
          go_enter Tryz.func10, Tryz.ntmps10
          go_wp2_with fail
          rw [← HW4.out]
          refine (HC.out _ HK0.out).mono ?_
          rintro e w5 ⟨rfl, hk5⟩
          have HT5 := Lib.hid (HRS.out.kept hk5)
          have HK5 := Lib.hid (HK0.out.trans hk5)
          have HK05 := Lib.hid hk5
          have b50 := hk5.cell b0
          have b51 := hk5.cell b1
          have b52 := hk5.cell b2
          have l50 := hk5.cell l0
          have l51 := hk5.cell l1
          have l52 := hk5.cell l2
          have b5p := hk5.cell bp
          clear hk5
          go_wp2_with fail
          refine (HBA.out _ HK5.out).mono ?_
          rintro e w6 ⟨rfl, hk6⟩
          have m0 := hk6.cell l50
          have m1 := hk6.cell l51
          have m2 := hk6.cell l52
          have HT6 := Lib.hid (HT5.out.kept hk6)
          have HK6 := Lib.hid (HK5.out.trans hk6)
          clear hk6
          go_wp2_with fail
          refine (HPR.out _ HK6.out).mono ?_
          rintro e w7 ⟨rfl, hk7⟩
          have HT := Lib.hid (HT6.out.kept hk7)
          have HKE := Lib.hid (HK6.out.trans hk7)
          clear hk7
          have g0 := HT.out.cell (i := 0) (by simp)
          have g1 := HT.out.cell (i := 1) (by simp)
          have g2 := HT.out.free 0
          have g3 := HT.out.free 1
          have hlt := HT.out.lt
          simp only [List.getElem_cons_succ, List.getElem_cons_zero] at g0 g1
          go_wp2
          refine bodyPost_ret (v := .tuple #[.agg #[.slice none 0 0, .slice none 0 0], .iface 56 (.int .i64 (3 : Nat))]) ?_ rfl ⟨⟨_, _, rfl, IntsAt.nil _, IntsAt.nil _⟩, (HKE.out.store (by omega) 0 _).store (by omega) 1 _⟩
          simp [results, Tryz.results10, go_sem, g0, g1]
        | true =>
          rw [hpr] at HPR
          have eP : byPR V T f ps l = match topT V T (overQ ps (ratOf l)) f.nodes with | none => (4, [], []) | some p => (0, p.1, p.2) := by unfold byPR; rw [if_neg (by simp [hsy]), if_neg (by have := HPN.out; omega), if_neg (by simp [hbad]), if_neg (by simp [hpr])] <;> rfl
          have HRUN : Hid (∀ W, Kept w4 W → Kept w W → Calls Tryz.prog 33 #[.agg #[.int .i64 V, .slice a n c, .int .i64 T], .func (.func 34) #[] #[.pointer (some ⟨w.heap.size + 1, 0, none⟩), .pointer (some ⟨w.heap.size + 1 + 1, 0, none⟩)]] W fun e w' => Tr.TRes w' e (topT V T (overQ ps (ratOf l)) f.nodes) ∧ Kept W w') := Lib.hid fun W hk hk0 =>
            Tr.trunP_any _ f V T (w.heap.size + 1) (w.heap.size + 1 + 1) (overQ ps (ratOf l)) W (HV.out.kept hk0) HOK.out hsy fun W' hk' e he => by
              have hc0 := (hk.trans hk').cell bp
              exact over_prob ps l e _ _ _ _ pa W' hc0 (HP.out.kept (hk0.trans hk')) H3.out (by have := HPN.out; omega) (HRC.out.kept (hk.trans hk')) HL3.out he
          have hne : ((pn : Int) == (V : Int)) = true := by simp; omega
          have hne2 : ((pn : Int) != (V : Int)) = false := by simp [bne]; omega
          have HSY := Lib.hid hsy
          clear hbad hpr hsy hlen
          cases hto : topT V T (overQ ps (ratOf l)) f.nodes with
          | none =>
            rw [hto] at HRUN eP
            simp only at eP
            rw [eP]
            rw [errV_pos (by decide)]
            clear eP hto
            go_enter Tryz.func10, Tryz.ntmps10
            go_wp2_with fail
            rw [← HW4.out]
            refine (HC.out _ HK0.out).mono ?_
            rintro e w5 ⟨rfl, hk5⟩
            have HT5 := Lib.hid (HRS.out.kept hk5)
            have HK5 := Lib.hid (HK0.out.trans hk5)
            have HK05 := Lib.hid hk5
            have b50 := hk5.cell b0
            have b51 := hk5.cell b1
            have b52 := hk5.cell b2
            have l50 := hk5.cell l0
            have l51 := hk5.cell l1
            have l52 := hk5.cell l2
            have b5p := hk5.cell bp
            clear hk5
            go_wp2_with fail
            refine (HBA.out _ HK5.out).mono ?_
            rintro e w6 ⟨rfl, hk6⟩
            have m0 := hk6.cell l50
            have m1 := hk6.cell l51
            have m2 := hk6.cell l52
            have c60 := hk6.cell b50
            have c61 := hk6.cell b51
            have c62 := hk6.cell b52
            have HT6 := Lib.hid (HT5.out.kept hk6)
            have HK6 := Lib.hid (HK5.out.trans hk6)
            have HK06 := Lib.hid (HK05.out.trans hk6)
            clear hk6
            go_wp2_with fail
            refine (HPR.out _ HK6.out).mono ?_
            rintro e w7 ⟨rfl, hk7⟩
            have c70 := hk7.cell c60
            have c71 := hk7.cell c61
            have c72 := hk7.cell c62
            have m70 := hk7.cell m0
            have m71 := hk7.cell m1
            have m72 := hk7.cell m2
            have HT7 := Lib.hid (HT6.out.kept hk7)
            have HK7 := Lib.hid (HK6.out.trans hk7)
            have HK07 := Lib.hid (HK06.out.trans hk7)
            clear hk7 b50 b51 b52 c60 c61 c62 l50 l51 l52 m0 m1 m2
            go_wp2_with fail
            refine (HRUN.out _ HK07.out HK7.out).mono ?_
            rintro e w8 ⟨hres, hk8⟩
            have HT := Lib.hid (HT7.out.kept hk8)
            have HKE := Lib.hid (HK7.out.trans hk8)
            clear hk8
            have HE := hres
            unfold Tr.TRes at HE
            rw [errV_pos (by decide)] at HE
            subst HE
            have g0 := HT.out.cell (i := 0) (by simp)
            have g1 := HT.out.cell (i := 1) (by simp)
            have g2 := HT.out.free 0
            have g3 := HT.out.free 1
            have hlt := HT.out.lt
            simp only [List.getElem_cons_succ, List.getElem_cons_zero] at g0 g1
            go_wp2
            refine bodyPost_ret (v := .tuple #[.agg #[.slice none 0 0, .slice none 0 0], .iface 56 (.int .i64 (4 : Nat))]) ?_ rfl ⟨⟨_, _, rfl, IntsAt.nil _, IntsAt.nil _⟩, (HKE.out.store (by omega) 0 _).store (by omega) 1 _⟩
            simp [results, Tryz.results10, go_sem, g0, g1]
          | some p =>
            rw [hto] at HRUN eP
            simp only at eP
            rw [eP]
            rw [errV_zero]
            have HTT := Lib.hid (topT_says HOK.out HSY.out (overQ ps (ratOf l)) hto)
            clear eP hto
            go_enter Tryz.func10, Tryz.ntmps10
            go_wp2_with fail
            rw [← HW4.out]
            refine (HC.out _ HK0.out).mono ?_
            rintro e w5 ⟨rfl, hk5⟩
            have HT5 := Lib.hid (HRS.out.kept hk5)
            have HK5 := Lib.hid (HK0.out.trans hk5)
            have HK05 := Lib.hid hk5
            have b50 := hk5.cell b0
            have b51 := hk5.cell b1
            have b52 := hk5.cell b2
            have l50 := hk5.cell l0
            have l51 := hk5.cell l1
            have l52 := hk5.cell l2
            have b5p := hk5.cell bp
            clear hk5
            go_wp2_with fail
            refine (HBA.out _ HK5.out).mono ?_
            rintro e w6 ⟨rfl, hk6⟩
            have m0 := hk6.cell l50
            have m1 := hk6.cell l51
            have m2 := hk6.cell l52
            have c60 := hk6.cell b50
            have c61 := hk6.cell b51
            have c62 := hk6.cell b52
            have HT6 := Lib.hid (HT5.out.kept hk6)
            have HK6 := Lib.hid (HK5.out.trans hk6)
            have HK06 := Lib.hid (HK05.out.trans hk6)
            clear hk6
            go_wp2_with fail
            refine (HPR.out _ HK6.out).mono ?_
            rintro e w7 ⟨rfl, hk7⟩
            have c70 := hk7.cell c60
            have c71 := hk7.cell c61
            have c72 := hk7.cell c62
            have m70 := hk7.cell m0
            have m71 := hk7.cell m1
            have m72 := hk7.cell m2
            have HT7 := Lib.hid (HT6.out.kept hk7)
            have HK7 := Lib.hid (HK6.out.trans hk7)
            have HK07 := Lib.hid (HK06.out.trans hk7)
            clear hk7 b50 b51 b52 c60 c61 c62 l50 l51 l52 m0 m1 m2
            go_wp2_with fail
            refine (HRUN.out _ HK07.out HK7.out).mono ?_
            rintro e w8 ⟨hres, hk8⟩
            have HT := Lib.hid (HT7.out.kept hk8)
            have HKE := Lib.hid (HK7.out.trans hk8)
            clear hk8
            unfold Tr.TRes at hres
            simp only [Tr.minK_evW HTT.out.goodR HTT.out.mkR, errV_zero] at hres
            obtain ⟨kv, fv, rfl, hkv, hfv⟩ := hres
            obtain ⟨ka, kn, kc, rfl⟩ := hkv.shape
            obtain ⟨fa, fn, fc, rfl⟩ := hfv.shape
            have HKV := Lib.hid hkv
            have HFV := Lib.hid hfv
            have g0 := HT.out.cell (i := 0) (by simp)
            have g1 := HT.out.cell (i := 1) (by simp)
            have g2 := HT.out.free 0
            have g3 := HT.out.free 1
            have hlt := HT.out.lt
            simp only [List.getElem_cons_succ, List.getElem_cons_zero] at g0 g1
            clear hkv hfv
            go_wp2
            refine bodyPost_ret (v := .tuple #[.agg #[.slice ka kn kc, .slice fa fn fc], .nilIface]) ?_ rfl ⟨⟨_, _, rfl, ?_, ?_⟩, (HKE.out.store (by omega) 0 _).store (by omega) 1 _⟩
            · simp [results, Tryz.results10, go_sem, g0, g1]
            · exact Tr.cutoff_ints HT.out ⟨_, _, _, rfl⟩ HKV.out
            · exact Tr.cutoff_ints HT.out ⟨_, _, _, rfl⟩ HFV.out
    · have e11 : byPR V T f ps l = (11, [], []) := by unfold byPR; rw [if_neg (by simp [hsy]), if_pos (by have := HPN.out; omega)]
      rw [e11]
      rw [errV_pos (by decide)]
      have hne : ((pn : Int) == (V : Int)) = false := by simp; omega
      have hne2 : ((pn : Int) != (V : Int)) = true := by simp [bne]; omega
      have hne3 : ¬ (pn : Int) = (V : Int) := by omega
      clear hsy e11 hlen
      go_enter Tryz.func10, Tryz.ntmps10
      go_wp2_with fail
      rw [← HW4.out]
      refine (HC.out _ HK0.out).mono ?_
      rintro e w5 ⟨rfl, hk5⟩
      have HT := Lib.hid (HRS.out.kept hk5)
      have HKE := Lib.hid (HK0.out.trans hk5)
      have b50 := hk5.cell b0
      have b51 := hk5.cell b1
      have b52 := hk5.cell b2
      have b5p := hk5.cell bp
      clear hk5
      have g0 := HT.out.cell (i := 0) (by simp)
      have g1 := HT.out.cell (i := 1) (by simp)
      have g2 := HT.out.free 0
      have g3 := HT.out.free 1
      have hlt := HT.out.lt
      simp only [List.getElem_cons_succ, List.getElem_cons_zero] at g0 g1
      go_wp2
      refine bodyPost_ret (v := .tuple #[.agg #[.slice none 0 0, .slice none 0 0], .iface 56 (.int .i64 (11 : Nat))]) ?_ rfl ⟨⟨_, _, rfl, IntsAt.nil _, IntsAt.nil _⟩, (HKE.out.store (by omega) 0 _).store (by omega) 1 _⟩
      simp [results, Tryz.results10, go_sem, g0, g1]
end Go.Proofs.YteodabnjkikogaaGreat

/-
  Slices of the reference's rows: an int and a slice of ints each.
-/
namespace Go.Proofs.YteodabnjkikogaaGreat
open Go.RowKit
variable {Z : Option Nat}

theorem info_rrow : (Tryz.prog.info? 113).map (fun i => (i.zero, i.size, i.bytes)) = some (some (.agg #[.int .i64 0, .slice none 0 0]), 2, 32) := by kernel_rfl
/-- The nodes of a row, as a slice of the call's own. -/
def NdsAt (Z : Option Nat) (w : World) (u : Value) (r : Nat) : Prop := OwnInts w 0 u (ofN (nodesOf r)) ∧ ∀ g, u.ownBlock = some g → Z ≠ some g
theorem NdsAt.kept {w w' : World} {u : Value} {r : Nat} (h : NdsAt Z w u r) (hk : Kept w w') : NdsAt Z w' u r := ⟨OwnInts.kept h.1 hk, h.2⟩
theorem NdsAt.shape {w : World} {u : Value} {r : Nat} (h : NdsAt Z w u r) : ∃ a c, u = .slice a (nodesOf r).length c := by
  obtain ⟨a, c, h, _⟩ := OwnInts.ints h.1
  exact ⟨a, c, by rw [h]; simp [ofN]⟩
theorem NdsAt.get {w : World} {a : Option Addr} {n c : Nat} {r : Nat} (h : NdsAt Z w (.slice a n c) r) (i : Nat) (hi : i < (nodesOf r).length) : ∃ b o, a = some ⟨b, o, none⟩ ∧ w.cell? ⟨b, o + i, none⟩ = some (.int .i64 ((nodesOf r)[i] : Nat)) := by
  obtain ⟨a', c', h1, _, _, h4⟩ := OwnInts.ints h.1
  injection h1 with h1 h2 h3
  subst h1
  obtain ⟨b, o, h5, h6⟩ := h4 i (by simpa [ofN] using hi)
  exact ⟨b, o, h5, by simpa [ofN] using h6⟩
/-- A slice of rows of the call's own. -/
def OwnRfs (Z : Option Nat) (w : World) (B : Nat) (v : Value) (L : List Nat) : Prop :=
  ∃ cells : List Value, w.ownsRow B 113 2 v L.length cells ∧ (L.length ≤ 20000 ∧ ∀ c ∈ L, RowLt 152 c) ∧
    ∀ i (h : i < L.length), ∃ u, cells[i * 2]? = some (.int .i64 (evW L[i])) ∧ cells[i * 2 + 1]? = some u ∧ NdsAt Z w u L[i]
theorem OwnRfs.kept {w w' : World} {B : Nat} {v : Value} {L : List Nat} (h : OwnRfs Z w B v L) (hk : Kept w w') : OwnRfs Z w' B v L := by
  obtain ⟨cells, h1, h2, h3⟩ := h
  exact ⟨cells, own_kept h1 hk, h2, fun i hi => let ⟨u, a, b, c⟩ := h3 i hi; ⟨u, a, b, c.kept hk⟩⟩
theorem OwnRfs.mono {w : World} {B B' : Nat} {v : Value} {L : List Nat} (h : OwnRfs Z w B v L) (hb : B' ≤ B) : OwnRfs Z w B' v L := by
  obtain ⟨cells, h1, h2, h3⟩ := h
  exact ⟨cells, own_mono h1 hb, h2, h3⟩
theorem OwnRfs.nil (w : World) (B : Nat) : OwnRfs Z w B (.slice none 0 0) [] := ⟨[], World.ownsRow_nil _ _ _ _, ⟨by simp, by simp⟩, fun i h => by simp at h⟩
theorem OwnRfs.lt {w : World} {B : Nat} {v : Value} {L : List Nat} (h : OwnRfs Z w B v L) : ∀ c ∈ L, RowLt 152 c := by obtain ⟨_, _, h, _⟩ := h; exact h.2
theorem OwnRfs.len {w : World} {B : Nat} {v : Value} {L : List Nat} (h : OwnRfs Z w B v L) : L.length ≤ 20000 := by obtain ⟨_, _, h, _⟩ := h; exact h.1
theorem OwnRfs.slice {w : World} {B : Nat} {v : Value} {L : List Nat} (h : OwnRfs Z w B v L) : ∃ a c, v = .slice a L.length c ∧ (a = none → c = 0) := by
  obtain ⟨cells, ⟨_, h⟩, _⟩ := h
  rcases h with ⟨rfl, h0⟩ | ⟨g, cp, _, rfl, _⟩
  · exact ⟨none, 0, by rw [h0], fun _ => rfl⟩
  · exact ⟨_, _, rfl, fun h => by cases h⟩
theorem two_range {w : World} {b o : Nat} {x u : Value} (h1 : w.cell? ⟨b, o, none⟩ = some x) (h2 : w.cell? ⟨b, o + 1, none⟩ = some u) : w.rangeAt b o [x, u] := by
  intro j v hj
  match j, hj with
  | 0, hj => simp at hj; subst hj; exact h1
  | 1, hj => simp at hj; subst hj; exact h2
/-- One row of a slice. -/
theorem OwnRfs.get {w : World} {B : Nat} {a : Option Addr} {n c : Nat} {L : List Nat} (h : OwnRfs Z w B (.slice a n c) L) (i : Nat) (hi : i < L.length) :
    ∃ b ua un uc, a = some ⟨b, 0, none⟩ ∧ un = (nodesOf L[i]).length ∧ NdsAt Z w (.slice ua un uc) L[i] ∧ w.rangeAt b (i * 2) [.int .i64 (evW L[i]), .slice ua un uc] := by
  obtain ⟨cells, ⟨h1, h2⟩, h3, h4⟩ := h
  rcases h2 with ⟨_, h6⟩ | ⟨g, cap, cur, hv, h6, h7, h8, h9, h10, h11⟩
  · omega
  · injection hv with hv1 hv2 hv3
    obtain ⟨u, e0, e1, e2⟩ := h4 i hi
    obtain ⟨ua, uc, rfl⟩ := e2.shape
    have hc : ∀ j, j < L.length * 2 → w.cell? ⟨g, j, none⟩ = cells[j]? := by
      intro j hj
      have e1 : (cur.toList.take (L.length * 2))[j]? = cells[j]? := by rw [h11]
      rw [List.getElem?_take_of_lt hj] at e1
      simp only [World.cell?, h7]
      simpa using e1
    exact ⟨g, ua, _, uc, hv1, rfl, e2, two_range (by rw [hc _ (by omega)]; exact e0) (by rw [hc _ (by omega)]; exact e1)⟩
theorem OwnRfs.own_ge {w : World} {B : Nat} {v : Value} {L : List Nat} (h : OwnRfs Z w B v L) {g : Nat} (hg : v.ownBlock = some g) : B ≤ g ∧ g < w.heap.size := by
  obtain ⟨_, h1, _⟩ := h
  exact h1.lt g hg
/-- append of a whole slice of rows to one of the call's own. -/
theorem wp_rfs {o : Oper} {a : Act} {K : Act → World → Prop} {Q : Exit → Act → World → Prop} {w : World} (s x : Operand)
    (ho : o.op = .call { callee := .builtin .append, args := #[s, x], argTypes := #[114, 114] }) (B : Nat) (v : Value) (L : List Nat) (hs : a.eval s = v) (hown : OwnRfs Z w B v L)
    (u : Value) (M : List Nat) (hx : a.eval x = u) (hu : OwnRfs Z w 0 u M) (hl : L.length + M.length ≤ 20000) (hB : B ≤ w.heap.size)
    (h : ∀ v' w', OwnRfs Z w' B v' (L ++ M) → Below B w w' → K (a.put o.dst v') w') : Oper.wp Tryz.prog o a w K Q := by
  obtain ⟨i0, hi0, hz0, hz1, hz2⟩ := info_parts info_rrow
  have hown0 := hown
  obtain ⟨cells, hown1, ⟨hkl, hlt⟩, hcell⟩ := hown
  obtain ⟨cs, ⟨hu1, hu2⟩, ⟨hul, hult⟩, huc⟩ := hu
  rcases hu2 with ⟨rfl, hu3⟩ | ⟨g, cap, cur, rfl, h6, h7, h8, h9, h10, h11⟩
  · have hM : M = [] := List.eq_nil_of_length_eq_zero hu3
    subst hM
    have hrun := run_append_owned_none (P := Tryz.prog) (w := w) B 114 o.type 113 i0 2 Tryz.underlying114 hi0 v L.length _ hown1
    unfold Oper.wp
    simp [execOp, ho, resolve, invoke, builtin, hs, hx, hrun, Result.andThen]
    exact h v w (by simpa using hown0) (Below.refl _ _)
  · refine wp_append_own _ s x 114 ho B 113 i0 _ 2 32 Tryz.underlying114 hi0 hz0 hz1 hz2 rfl (by decide) v L.length cells hs hown1 ⟨g, 0, none⟩ M.length cap cs hx hu1 ?_ ?_ (by unfold maxLen; omega) (by omega) hB ?_
    · intro j y hj
      have hj' : j < M.length * 2 := by rw [← hu1]; exact (List.getElem?_eq_some_iff.1 hj).1
      have e1 : (cur.toList.take (M.length * 2))[j]? = cs[j]? := by rw [h11]
      rw [List.getElem?_take_of_lt hj', hj] at e1
      rw [addr_add]
      simp only [World.cell?, h7, Nat.zero_add]
      simpa using e1
    · intro y hy
      obtain ⟨j, hj⟩ := List.getElem?_of_mem hy
      have hj' : j < M.length * 2 := by rw [← hu1]; exact (List.getElem?_eq_some_iff.1 hj).1
      obtain ⟨u, e0, e1, e2⟩ := huc (j / 2) (by omega)
      obtain ⟨ua, uc, rfl⟩ := e2.shape
      by_cases hp : j % 2 = 0
      · rw [show j / 2 * 2 = j by omega, hj] at e0
        rw [Option.some.inj e0]; simp [Value.oneCell']
      · rw [show j / 2 * 2 + 1 = j by omega, hj] at e1
        rw [Option.some.inj e1]; simp [Value.oneCell']
    · intro v' w' h3 h4 _
      have hg : ∀ k, k < w.heap.size → some k ≠ v.ownBlock → w'.heap[k]? = w.heap[k]? := fun k hk hne => h4.block k hk hne
      refine h v' w' ⟨cells ++ cs, by rw [List.length_append]; exact h3, ⟨by simp; omega, fun c hc => ?_⟩, ?_⟩ (grown_below h4 hown1 hB)
      · rcases List.mem_append.1 hc with hc | hc
        · exact hlt c hc
        · exact hult c hc
      · intro i hi
        have hcl : cells.length = L.length * 2 := hown1.1
        by_cases hik : i < L.length
        · obtain ⟨u, e0, e1, e2⟩ := hcell i hik
          rw [List.getElem_append_left hik]
          refine ⟨u, ?_, ?_, ⟨⟨own_tag e2.1.1 hown1 (by decide) hg, e2.1.2⟩, e2.2⟩⟩
          · rw [List.getElem?_append_left (by omega), e0]
          · rw [List.getElem?_append_left (by omega), e1]
        · rw [List.length_append] at hi
          obtain ⟨u, e0, e1, e2⟩ := huc (i - L.length) (by omega)
          rw [List.getElem_append_right (by omega)]
          refine ⟨u, ?_, ?_, ⟨⟨own_tag e2.1.1 hown1 (by decide) hg, e2.1.2⟩, e2.2⟩⟩
          · rw [List.getElem?_append_right (by omega), hcl, show i * 2 - L.length * 2 = (i - L.length) * 2 by omega, e0]
          · rw [List.getElem?_append_right (by omega), hcl, show i * 2 + 1 - L.length * 2 = (i - L.length) * 2 + 1 by omega, e1]
theorem app_rfs {ops : Array Oper} {rest : List Oper} {o : Oper} {a : Act} {Q : Exit → Act → World → Prop} {w : World} (hgd : o.guard = none) (s x : Operand)
    (ho : o.op = .call { callee := .builtin .append, args := #[s, x], argTypes := #[114, 114] }) (B : Nat) (v : Value) (L : List Nat) (hs : a.eval s = v) (hown : OwnRfs Z w B v L)
    (u : Value) (M : List Nat) (hx : a.eval x = u) (hu : OwnRfs Z w 0 u M) (hl : L.length + M.length ≤ 20000) (hB : B ≤ w.heap.size)
    (h : ∀ v' w', OwnRfs Z w' B v' (L ++ M) → Below B w w' → wpList Tryz.prog ops Q rest (a.put o.dst v') w') : wpList Tryz.prog ops Q (o :: rest) a w :=
  wpList_plain hgd fun _ hK => wp_rfs s x ho B v L hs hown u M hx hu hl hB fun v' w' h1 h2 => hK _ _ (h v' w' h1 h2)
/-- The same at a step of a region that draws its order. -/
theorem step_rfs {ops : Array Oper} {o : Oper} {a : Act} {K : Act → World → Prop} {Q : Exit → Act → World → Prop} {E : Prop} {w : World} (hgd : o.guard = none) (s x : Operand)
    (ho : o.op = .call { callee := .builtin .append, args := #[s, x], argTypes := #[114, 114] }) (B : Nat) (v : Value) (L : List Nat) (hs : a.eval s = v) (hown : OwnRfs Z w B v L)
    (u : Value) (M : List Nat) (hx : a.eval x = u) (hu : OwnRfs Z w 0 u M) (hl : L.length + M.length ≤ 20000) (hB : B ≤ w.heap.size)
    (h : ∀ v' w', OwnRfs Z w' B v' (L ++ M) → Below B w w' → K (a.put o.dst v') w') : if Region.wanted o (yielded ops a.tmps) = true then Oper.wp Tryz.prog o a w K Q else E := by
  have hw : Region.wanted o (yielded ops a.tmps) = true := by simp [Region.wanted, hgd]
  rw [if_pos hw]
  exact wp_rfs s x ho B v L hs hown u M hx hu hl hB h
theorem OwnRfs.one {w : World} {g B r : Nat} {u : Value} (h : w.heap[g]? = some (.cells #[.int .i64 (evW r), u] 113 (0, 0))) (hu : NdsAt Z w u r) (hr : RowLt 152 r) (hB : B ≤ g) : OwnRfs Z w B (.slice (some ⟨g, 0, none⟩) 1 1) [r] :=
  ⟨[.int .i64 (evW r), u], ⟨rfl, .inr ⟨g, 1, #[.int .i64 (evW r), u], rfl, hB, h, Nat.le_refl _, by unfold maxLen; omega, rfl, rfl⟩⟩, ⟨by simp, by simpa using hr⟩, fun i hi => by
    have : i = 0 := by simpa using hi
    subst this
    exact ⟨u, rfl, rfl, hu⟩⟩
/-- append of one row that lies in a block of its own. -/
theorem app_rf {ops : Array Oper} {rest : List Oper} {o : Oper} {a : Act} {Q : Exit → Act → World → Prop} {w : World} (hgd : o.guard = none) (s x : Operand)
    (ho : o.op = .call { callee := .builtin .append, args := #[s, x], argTypes := #[114, 114] }) (B : Nat) (v : Value) (L : List Nat) (hs : a.eval s = v) (hown : OwnRfs Z w B v L)
    (g r : Nat) (u : Value) (hx : a.eval x = .slice (some ⟨g, 0, none⟩) 1 1) (hc : w.rangeAt g 0 [.int .i64 (evW r), u]) (hu : NdsAt Z w u r) (hr : RowLt 152 r) (hl : L.length < 20000) (hB : B ≤ w.heap.size)
    (h : ∀ v' w', OwnRfs Z w' B v' (L ++ [r]) → Below B w w' → wpList Tryz.prog ops Q rest (a.put o.dst v') w') : wpList Tryz.prog ops Q (o :: rest) a w := by
  obtain ⟨i0, hi0, hz0, hz1, hz2⟩ := info_parts info_rrow
  obtain ⟨cells, hown1, ⟨hkl, hlt⟩, hcell⟩ := hown
  obtain ⟨sa, sc, rfl⟩ := hu.shape
  refine wpList_append_own _ hgd s x 114 ho B 113 i0 _ 2 32 Tryz.underlying114 hi0 hz0 hz1 hz2 rfl (by decide) v L.length cells hs hown1 ⟨g, 0, none⟩ 1 1 [.int .i64 (evW r), .slice sa (nodesOf r).length sc] hx rfl ?_ ?_ (by unfold maxLen; omega) (by omega) hB ?_
  · intro j u hj
    have := hc j u hj
    rw [addr_add]; exact this
  · intro u hu
    simp at hu
    rcases hu with rfl | rfl <;> rfl
  · intro v' w' h3 h4 _
    have hg : ∀ k, k < w.heap.size → some k ≠ v.ownBlock → w'.heap[k]? = w.heap[k]? := fun k hk hne => h4.block k hk hne
    refine h v' w' ⟨cells ++ [.int .i64 (evW r), .slice sa (nodesOf r).length sc], by simpa using h3, ⟨by simp; omega, fun c hc => ?_⟩, ?_⟩ (grown_below h4 hown1 hB)
    · rcases List.mem_append.1 hc with hc | hc
      · exact hlt c hc
      · simp at hc; subst hc; exact hr
    · intro i hi
      simp at hi
      have hcl : cells.length = L.length * 2 := hown1.1
      by_cases hik : i < L.length
      · obtain ⟨u, e0, e1, e2⟩ := hcell i hik
        rw [List.getElem_append_left hik]
        refine ⟨u, ?_, ?_, ⟨⟨own_tag e2.1.1 hown1 (by decide) hg, e2.1.2⟩, e2.2⟩⟩
        · rw [List.getElem?_append_left (by omega), e0]
        · rw [List.getElem?_append_left (by omega), e1]
      · have e : i = L.length := by omega
        subst e
        rw [List.getElem_append_right (Nat.le_refl _)]
        simp only [Nat.sub_self, List.getElem_cons_zero]
        refine ⟨.slice sa (nodesOf r).length sc, ?_, ?_, ⟨⟨own_tag hu.1.1 hown1 (by decide) hg, hu.1.2⟩, hu.2⟩⟩
        · rw [List.getElem?_append_right (by omega), hcl]; simp
        · rw [List.getElem?_append_right (by omega), hcl]; simp
/-- The nodes of a row without its greatest one, in the same memory. -/
theorem NdsAt.prefix {w : World} {a : Option Addr} {n c r q x : Nat} (h : NdsAt Z w (.slice a n c) r) (he : nodesOf r = nodesOf q ++ [x]) : NdsAt Z w (.slice a (n - 1) c) q := by
  obtain ⟨⟨⟨h1, h2⟩, h3⟩, hz⟩ := h
  rw [he] at h2 h3
  simp only [ofN, List.map_append, List.length_append, List.map_cons, List.map_nil, List.length_cons, List.length_nil, List.length_map] at h2 h3
  rcases h2 with ⟨_, h4⟩ | ⟨g, cap, cur, hv, h5, h6, h7, h8, h9, h10⟩
  · omega
  · injection hv with hv1 hv2 hv3
    refine ⟨⟨⟨by simp [ofN], .inr ⟨g, cap, cur, ?_, h5, h6, ?_, h8, h9, ?_⟩⟩, ?_⟩, fun g hg => hz g (by rw [hv1] at hg ⊢; exact hg)⟩
    · rw [hv1, hv2, hv3]; simp [ofN]
    · simp [ofN]; omega
    · simp only [ofN, List.length_map, Nat.mul_one, List.map_map] at h10 ⊢
      have e := congrArg (fun l => l.take (nodesOf q).length) h10
      simp only [List.take_take] at e
      rw [Nat.min_eq_left (by omega)] at e
      rw [e, List.take_append_of_le_length (by simp), List.take_of_length_le (by simp)]
    · simp [ofN]; omega
end Go.Proofs.YteodabnjkikogaaGreat

/-
  Walks: faultlineref31.Part, Greatest.
-/
namespace Go.Proofs.YteodabnjkikogaaGreat
open Go.RowKit
variable {Z : Option Nat}

theorem scanN_take (la lb : List Nat) (j : Nat) (h : j < lb.length) : scanN la (lb.take (j + 1)) 0 = stepN la (scanN la (lb.take j) 0) lb[j] := by
  unfold scanN
  rw [List.take_succ_eq_append_getElem h, List.foldl_append]; rfl
set_option maxRecDepth 100000 in
set_option maxHeartbeats 4000000 in
theorem rrpart_any {a b : Nat} (ha : RowLt 152 a) (ua ub : Value) (w : World) (hua : NdsAt Z w ua a) (hub : NdsAt Z w ub b) :
    Calls Tryz.prog 140 #[.agg #[.int .i64 (evW a), ua], .agg #[.int .i64 (evW b), ub]] w fun e w' => e = .returned (.bool (subN a b)) ∧ Kept w w' := by
  have he := part_iff b ha
  have hea := evW_lt a
  have heb := evW_lt b
  have hs := sub_i64 (evW a) (evW b) (by omega) (by omega)
  obtain ⟨sa, ca, rfl⟩ := hua.shape
  obtain ⟨sb, cb, rfl⟩ := hub.shape
  have HGA := Lib.hid (fun i hi => hua.get i hi)
  have HGB := Lib.hid (fun i hi => hub.get i hi)
  have hla := nodesOf_len a
  have hlb := nodesOf_len b
  rw [he]
  clear he hua hub ha
  generalize nodesOf a = la at *
  generalize nodesOf b = lb at *
  generalize subN (evW a) (evW b) = x1 at *
  generalize evW a = ea at *
  generalize evW b = eb at *
  obtain ⟨na, hna⟩ : ∃ n, n = la.length := ⟨_, rfl⟩
  obtain ⟨nb, hnb⟩ : ∃ n, n = lb.length := ⟨_, rfl⟩
  rw [← hna] at hla ⊢
  rw [← hnb] at hlb ⊢
  have HNA := Lib.hid hna
  have HNB := Lib.hid hnb
  cases x1 with
  | false =>
    have b1 : (bits .andNot .i64 (ea : Int) (eb : Int) != 0) = true := by rw [bne, hs]; rfl
    clear hs hna hnb
    go_enter Tryz.func140, Tryz.ntmps140
    go_wp2
    go_ret
    exact ⟨rfl, ((Kept.refl _).alloc _).alloc _⟩
  | true =>
    have b1 : (bits .andNot .i64 (ea : Int) (eb : Int) != 0) = false := by rw [bne, hs]; rfl
    clear hs hna hnb
    go_enter Tryz.func140, Tryz.ntmps140
    go_wp2
    obtain ⟨L1, hL1⟩ : ∃ L : World, L = (w.alloc (.cells #[.int .i64 ea, .slice sa na ca] 113)).alloc (.cells #[.int .i64 eb, .slice sb nb cb] 113) := ⟨_, rfl⟩
    have HK1 : Hid (Kept w L1) := Lib.hid (by rw [hL1]; exact ((Kept.refl _).alloc _).alloc _)
    have c1 : L1.cell? ⟨w.heap.size, 1, none⟩ = some (.slice sa na ca) := by rw [hL1]; simp
    have HL1 := Lib.hid hL1
    clear hL1
    go_loopg [5, 17] nb (fun kx s5 s17 wr => ∃ j k : Nat, s5 = .int .i64 k ∧ s17 = .int .i64 j ∧ j ≤ nb ∧ nb - j ≤ kx ∧ k ≤ na ∧ Hid (k = scanN la (lb.take j) 0) ∧ Hid (Kept L1 wr))
    case atStart => exact ⟨0, 0, rfl, rfl, Nat.zero_le _, by omega, Nat.zero_le _, Lib.hid (by rw [List.take_zero]; rfl), Lib.hid (by rw [HL1.out]; exact Kept.refl _)⟩
    case round =>
      obtain ⟨j, k, rfl, rfl, hj, hjx, hk, HKS, HK⟩ := hrel
      have d1 := HK.out.cell c1
      by_cases hlt : j < nb
      · have hjl : j < lb.length := by have := HNB.out; omega
        obtain ⟨bb, ob, rfl, hcb0⟩ := HGB.out j (by rw [← HNB.out]; exact hlt)
        have hcb := (HK1.out.trans HK.out).cell hcb0
        have hnx := scanN_take la lb j hjl
        rw [← HKS.out] at hnx
        obtain ⟨y, hy⟩ : ∃ y, y = lb[j] := ⟨_, rfl⟩
        rw [← hy] at hcb hnx
        have hjn : (j : Int) < (nb : Int) := by omega
        clear hcb0 hy
        by_cases hkl : k < na
        · have hkl' : k < la.length := by have := HNA.out; omega
          obtain ⟨ba, oa, rfl, hca0⟩ := HGA.out k hkl'
          have hca := (HK1.out.trans HK.out).cell hca0
          unfold stepN at hnx
          rw [List.getElem?_eq_getElem hkl'] at hnx
          obtain ⟨x, hx⟩ : ∃ x, x = la[k] := ⟨_, rfl⟩
          rw [← hx] at hca hnx
          have hkn : (k : Int) < (na : Int) := by omega
          clear hca0 hx
          by_cases hxy : x = y
          · subst hxy
            rw [if_pos rfl] at hnx
            have HNX := Lib.hid hnx
            clear hnx
            go_wp2
            go_roundg (nb - (j + 1))
            case measure => omega
            case rel => exact ⟨j + 1, k + 1, by go_num, by go_num, by omega, Nat.le_refl _, by omega, Lib.hid HNX.out.symm, HK⟩
          · rw [if_neg (by simpa using hxy)] at hnx
            have b2 : ((x : Int) == (y : Int)) = false := by simp; omega
            have HNX := Lib.hid hnx
            clear hnx hxy
            go_wp2
            go_roundg (nb - (j + 1))
            case measure => omega
            case rel => exact ⟨j + 1, k, rfl, by go_num, by omega, Nat.le_refl _, by omega, Lib.hid HNX.out.symm, HK⟩
        · have hke : k = na := by omega
          unfold stepN at hnx
          rw [List.getElem?_eq_none (by have := HNA.out; omega), if_neg (by simp)] at hnx
          have HNX := Lib.hid hnx
          have hkn : ¬ (k : Int) < (na : Int) := by omega
          clear hnx hke
          go_wp2
          go_roundg (nb - (j + 1))
          case measure => omega
          case rel => exact ⟨j + 1, k, rfl, by go_num, by omega, Nat.le_refl _, by omega, Lib.hid HNX.out.symm, HK⟩
      · have HF : Hid (k = scanN la lb 0) := Lib.hid (by have h := HKS.out; rw [show j = nb by omega, HNB.out, List.take_length] at h; exact h)
        have hjn : ¬ (j : Int) < (nb : Int) := by omega
        go_wp2
        go_ret
        refine ⟨?_, HK1.out.trans HK.out⟩
        rw [← HF.out]
        show Ending.returned (Value.bool ((k : Int) == (na : Int))) = _
        congr 2
        rw [Bool.eq_iff_iff]; simp; omega
set_option maxRecDepth 100000 in
set_option maxHeartbeats 4000000 in
theorem rgreatest_any (B : Nat) (v : Value) (L : List Nat) (w : World) (hv : OwnRfs Z w B v L) : Calls Tryz.prog 81 #[v] w fun e w' => (∃ r : Int, e = .returned (.int .i64 r) ∧ GTop L r) ∧ Kept w w' := by
  have HV := Lib.hid hv
  have hl9 := hv.len
  obtain ⟨sa, sc, rfl, _⟩ := hv.slice
  obtain ⟨n, hn⟩ : ∃ n, n = L.length := ⟨_, rfl⟩
  rw [← hn] at HV hl9 ⊢
  have HN := Lib.hid hn
  clear hn hv
  go_enter Tryz.func81, Tryz.ntmps81
  go_wp2
  go_loopg [3, 8] n (fun kx s3 s8 wr => ∃ (k : Nat) (r : Int), s3 = .int .i64 r ∧ s8 = .int .i64 k ∧ k ≤ n ∧ n - k ≤ kx ∧ -1 ≤ r ∧ r ≤ 1000 ∧ Hid (GTop (L.take k) r) ∧ Hid (Kept w wr))
  case atStart => exact ⟨0, -1, rfl, rfl, Nat.zero_le _, by omega, by omega, by omega, Lib.hid GTop.nil, Lib.hid (Kept.refl _)⟩
  case round =>
    obtain ⟨k, r, rfl, rfl, hk, hkx, hr0, hr9, HG, HK⟩ := hrel
    by_cases hlt : k < n
    · have hkl : k < L.length := by have := HN.out; omega
      obtain ⟨b, ua, un, uc, rfl, hun, hnd, hrg⟩ := (HV.out.kept HK.out).get k hkl
      have hc152 : RowLt 152 L[k] := HV.out.lt _ (List.getElem_mem _)
      have HS : Hid (∀ s, TopIs L[k] s → GTop (L.take (k + 1)) (max r s)) := Lib.hid fun s hs => by
        rw [List.take_succ_eq_append_getElem hkl]; exact HG.out.snoc hs
      have HRG := Lib.hid hrg
      have hkn : (k : Int) < (n : Int) := by omega
      have hul := nodesOf_len L[k]
      by_cases hz : nodesOf L[k] = []
      · have hu0 : un = 0 := by rw [hun, hz]; rfl
        subst hu0
        have HF : Hid (GTop (L.take (k + 1)) r) := Lib.hid (by have h := HS.out _ (topIs_nil hc152 hz); rw [show max r (-1) = r by omega] at h; exact h)
        clear hz hun hnd hrg HS hul
        generalize evW L[k] = z0 at *
        go_wp2_with (with_reducible refine wpList_load_mid rfl 113 _ rfl b (k * 2) rfl _ _ HRG.out Tryz.underlying113 rfl (by kernel_rfl) ?_)
        go_roundg (n - (k + 1))
        case measure => omega
        case rel => exact ⟨k + 1, r, rfl, by go_num, by omega, Nat.le_refl _, hr0, hr9, HF, Lib.hid (HK.out.alloc _)⟩
      · obtain ⟨l, x, hlx⟩ : ∃ l x, nodesOf L[k] = l ++ [x] := ⟨_, _, (List.dropLast_concat_getLast hz).symm⟩
        have hu1 : un = l.length + 1 := by rw [hun, hlx]; simp
        have hxm : x ∈ nodesOf L[k] := by rw [hlx]; simp
        have hx128 := (mem_nodesOf.1 hxm).1
        obtain ⟨bu, ou, rfl, hcu⟩ := hnd.get l.length (by rw [hlx]; simp)
        have hgx : (nodesOf L[k])[l.length]'(by rw [hlx]; simp) = x := by simp [hlx]
        rw [hgx] at hcu
        obtain ⟨m, hm⟩ : ∃ m, m = l.length := ⟨_, rfl⟩
        rw [← hm] at hcu hu1
        have hm9 : m ≤ 128 := by rw [hlx] at hul; simp at hul; omega
        have HF : Hid (GTop (L.take (k + 1)) (max r x)) := Lib.hid (HS.out _ (topIs_last hc152 hlx))
        have q1 : (un : Int) - 1 = (m : Int) := by omega
        have q2 : (0 : Int) < (un : Int) := by omega
        have hcu2 := ((Kept.refl wr).alloc (.cells #[.int .i64 (evW L[k]), .slice (some ⟨bu, ou, none⟩) un uc] 113)).cell hcu
        clear hz hun hnd hrg HS hul hlx hxm hgx hm hcu hu1
        generalize evW L[k] = z0 at *
        go_wp2_with (with_reducible refine wpList_load_mid rfl 113 _ rfl b (k * 2) rfl _ _ HRG.out Tryz.underlying113 rfl (by kernel_rfl) ?_)
        go_roundg (n - (k + 1))
        case measure => omega
        case rel => exact ⟨k + 1, max r x, by go_num, by go_num, by omega, Nat.le_refl _, by omega, by omega, HF, Lib.hid (HK.out.alloc _)⟩
    · have hke : k = n := by omega
      have HF : Hid (GTop L r) := Lib.hid (by have h := HG.out; rw [hke, HN.out, List.take_length] at h; exact h)
      have hkn : ¬ (k : Int) < (n : Int) := by omega
      go_wp2
      go_ret
      exact ⟨⟨_, rfl, HF.out⟩, HK.out⟩
end Go.Proofs.YteodabnjkikogaaGreat

/-
  Walks: faultlineref31.with. (Printed by gen_X4.py.)
-/
namespace Go.Proofs.YteodabnjkikogaaGreat
open Go.RowKit
variable {Z : Option Nat}

theorem OwnInts.store_lt {w : World} {B g : Nat} {v : Value} {xs : List Int} (h : OwnInts w B v xs) (hg : g < B) (i : Nat) (u : Value) : OwnInts (w.setCell ⟨g, i, none⟩ u) B v xs := by
  obtain ⟨⟨h1, h2⟩, h3⟩ := h
  refine ⟨⟨h1, h2.imp id ?_⟩, h3⟩
  rintro ⟨g2, cap, cur, h4, h5, h6, h7⟩
  exact ⟨g2, cap, cur, h4, h5, (Below.heap_setCell w ⟨g, i, none⟩ u g2 (show g2 ≠ g by omega)).trans h6, h7⟩
theorem RowAt.below {w w' : World} {B g : Nat} {e : TypeId} {xs : List Value} (h : RowAt w g e xs) (hb : Below B w w') (hg : g < B) : RowAt w' g e xs := h.same (hb.block g hg)
theorem filter_take (p : Nat → Bool) (l : List Nat) (k : Nat) (h : k < l.length) : (l.take (k + 1)).filter p = (l.take k).filter p ++ (if p l[k] = true then [l[k]] else []) := by
  rw [List.take_succ_eq_append_getElem h, List.filter_append]
  cases hp : p l[k] <;> simp [hp]
theorem filter_take_len (p : Nat → Bool) (l : List Nat) (k : Nat) : ((l.take k).filter p).length ≤ l.length :=
  Nat.le_trans (List.length_filter_le ..) (by rw [List.length_take]; omega)
set_option maxRecDepth 100000 in
theorem rrwith_ev (r a V : Nat) (v : Value) (T : Int) (hs : ∃ a n c, v = .slice a n c) (hV : V ≤ 24) (ha : a < V) (u : Value) (w : World) (hu : NdsAt Z w u r) :
    Calls Tryz.prog 182 #[.agg #[.int .i64 V, v, .int .i64 T], .agg #[.int .i64 (evW r), u], .int .i64 a] w fun e w' => (∃ u', e = .returned (.agg #[.int .i64 (evW (r ||| 2 ^ a)), u']) ∧ NdsAt Z w' u' (r ||| 2 ^ a)) ∧ Kept w w' := by
  obtain ⟨sa, n, c, rfl⟩ := hs
  have h1 : (a : Int) < (V : Int) := by omega
  have h2 : ¬ (a : Int) < 0 := by omega
  have p1 := pow_i64 a (by omega)
  have hp := pow_lt24 (show a < 24 by omega)
  have HU : Hid (∀ W, Kept w W → NdsAt Z W u (r ||| 2 ^ a)) := Lib.hid fun W hk => by
    have := hu.kept hk
    unfold NdsAt at this ⊢
    rw [nodesOf_ev r a (by omega)]; exact this
  rw [(ev_with (show a < 24 by omega)).1]
  obtain ⟨ua, uc, rfl⟩ := hu.shape
  obtain ⟨z, hz⟩ : ∃ z, z = 2 ^ a := ⟨_, rfl⟩
  have hev := evW_lt r
  generalize evW r = e0 at *
  rw [← hz] at p1 hp HU ⊢
  have p2 := or_i64 e0 z (by omega) (by omega)
  clear hz hu
  obtain ⟨y, hy⟩ : ∃ y, y = e0 ||| z := ⟨_, rfl⟩
  rw [← hy] at p2 ⊢
  clear hy
  generalize (nodesOf r).length = un at *
  go_enter Tryz.func182, Tryz.ntmps182
  go_wp2
  go_region
  all_goals go_wp2
  all_goals exact bodyPost_ret (v := .agg #[.int .i64 y, .slice ua un uc]) (by simp [results, Tryz.results182, go_sem]) rfl ⟨⟨_, rfl, HU.out _ (by first | exact ((((Kept.refl _).alloc _).alloc _).alloc _) | exact ((((Kept.refl _).alloc _).alloc _).alloc _).drew)⟩, by first | exact ((((Kept.refl _).alloc _).alloc _).alloc _) | exact ((((Kept.refl _).alloc _).alloc _).alloc _).drew⟩
set_option maxRecDepth 100000 in
set_option maxHeartbeats 4000000 in
theorem rrwith_node (r j V : Nat) (v : Value) (T : Int) (hs : ∃ a n c, v = .slice a n c) (hV : V ≤ 24) (hj : j < 128) (u : Value) (w : World) (hZ : ∀ z, Z = some z → z < w.heap.size) (hu : NdsAt Z w u r) :
    Calls Tryz.prog 182 #[.agg #[.int .i64 V, v, .int .i64 T], .agg #[.int .i64 (evW r), u], .int .i64 (V + j : Nat)] w fun e w' => (∃ u', e = .returned (.agg #[.int .i64 (evW (r ||| 2 ^ (24 + j))), u']) ∧ NdsAt Z w' u' (r ||| 2 ^ (24 + j))) ∧ Kept w w' := by
  obtain ⟨sf, nf, cf, rfl⟩ := hs
  rw [evW_or]
  have HFIN := Lib.hid (nodesOf_node r j hj)
  have HZ : Hid (∀ {W : World} {v : Value} {xs : List Int}, OwnInts W (w.heap.size + 4) v xs → ∀ g, v.ownBlock = some g → Z ≠ some g) := Lib.hid fun ho g hg hz => by
    have h1 := (ho.1.lt g hg).1
    have h2 := hZ g hz
    omega
  obtain ⟨sa, ca, rfl⟩ := hu.shape
  have HG := Lib.hid (fun i hi => hu.get i hi)
  have hla := nodesOf_len r
  obtain ⟨t, ht⟩ : ∃ t, t = r ||| 2 ^ (24 + j) := ⟨_, rfl⟩
  rw [← ht] at HFIN ⊢
  clear hu ht hZ
  generalize nodesOf r = l at *
  generalize evW r = ev at *
  obtain ⟨na, hna⟩ : ∃ n, n = l.length := ⟨_, rfl⟩
  rw [← hna] at hla ⊢
  have HNA := Lib.hid hna
  obtain ⟨a, haj⟩ : ∃ a, a = V + j := ⟨_, rfl⟩
  rw [← haj]
  have h1 : ¬ (a : Int) < (V : Int) := by omega
  have h3 : IntKind.i64.wrap ((a : Int) - (V : Int)) = (j : Int) := by rw [IntKind.wrap_i64]; omega
  have h4 : (a : Int) - (V : Int) = (j : Int) := by omega
  clear hna haj
  go_enter Tryz.func182, Tryz.ntmps182
  go_wp2
  obtain ⟨L0, hL0⟩ : ∃ L : World, L = ((w.alloc (.cells #[.int .i64 V, .slice sf nf cf, .int .i64 T] 24)).alloc (.cells #[.int .i64 ev, .slice sa na ca] 113)).alloc (.cells #[.int .i64 0, .slice none 0 0] 113) := ⟨_, rfl⟩
  have hsz0 : L0.heap.size = w.heap.size + 3 := by rw [hL0]; simp
  have HK0 : Hid (Kept w L0) := Lib.hid (by rw [hL0]; exact (((Kept.refl _).alloc _).alloc _).alloc _)
  have c1 : L0.cell? ⟨w.heap.size + 1, 1, none⟩ = some (.slice sa na ca) := by rw [hL0]; exact ((Kept.refl _).alloc _).cell (by simp)
  have HR2 : Hid (RowAt L0 (w.heap.size + 1 + 1) 113 [.int .i64 0, .slice none 0 0]) := Lib.hid (by rw [hL0]; have := RowAt.made ((w.alloc (.cells #[.int .i64 V, .slice sf nf cf, .int .i64 T] 24)).alloc (.cells #[.int .i64 ev, .slice sa na ca] 113)) #[.int .i64 0, .slice none 0 0] 113; simpa using this)
  have HR3 : Hid (RowAt (L0.alloc (.cells #[.int .i64 ev, .slice none 0 0] 113)) (w.heap.size + 1 + 1 + 1) 113 [.int .i64 ev, .slice none 0 0]) := Lib.hid (by have := RowAt.made L0 #[.int .i64 ev, .slice none 0 0] 113; rw [hsz0] at this; exact this)
  have HL0 := Lib.hid hL0
  clear hL0
  go_loopg [35] na (fun kx s35 wr => ∃ (k : Nat) (vo : Value), s35 = .int .i64 k ∧ k ≤ na ∧ na - k ≤ kx ∧ Hid (OwnInts wr (w.heap.size + 4) vo (ofN ((l.take k).filter (fun x => decide (x < j))))) ∧ Hid (RowAt wr (w.heap.size + 1 + 1 + 1) 113 [.int .i64 ev, vo]) ∧ Hid (Kept L0 wr))
  case atStart => exact ⟨0, _, rfl, Nat.zero_le _, by omega, Lib.hid (OwnInts.nil _ _), Lib.hid (by have := HR3.out; rw [HL0.out] at this; exact this), Lib.hid (by rw [HL0.out]; exact (Kept.refl _).alloc _)⟩
  case round =>
    obtain ⟨k, vo, rfl, hk, hkx, HO, HR, HK⟩ := hrel
    have d1 := HK.out.cell c1
    have hszr := HR.out.lt
    have m1 := HR.out.cell (i := 1) (by simp)
    have f1 := HR.out.free 1
    simp only [List.getElem_cons_succ, List.getElem_cons_zero] at m1
    obtain ⟨oa, on, oc, rfl⟩ := HO.out.ints.shape
    by_cases hlt : k < na
    · have hkl : k < l.length := by have := HNA.out; omega
      obtain ⟨bb, ob, rfl, hcb0⟩ := HG.out k (by rw [← HNA.out]; exact hlt)
      have hcb := (HK0.out.trans HK.out).cell hcb0
      have hnx := filter_take (fun x => decide (x < j)) l k hkl
      have hfl := filter_take_len (fun x => decide (x < j)) l k
      obtain ⟨x, hx⟩ : ∃ x, x = l[k] := ⟨_, rfl⟩
      rw [← hx] at hcb hnx
      have hkn : (k : Int) < (na : Int) := by omega
      clear hcb0 hx
      by_cases hxj : x < j
      · rw [if_pos (by simpa using hxj)] at hnx
        have hlen : (ofN ((l.take k).filter (fun x => decide (x < j)))).length < 17592186044416 := by have := HNA.out; simp [ofN] at hfl ⊢; omega
        have hnxi : ofN ((l.take (k + 1)).filter (fun x => decide (x < j))) = ofN ((l.take k).filter (fun x => decide (x < j))) ++ [(x : Int)] := by rw [hnx]; simp [ofN]
        have HNX := Lib.hid hnxi
        have hxj' : (x : Int) < (j : Int) := by omega
        clear hnx hnxi hfl
        generalize hfk : ofN ((l.take k).filter (fun x => decide (x < j))) = fk at *
        go_wp2_with (at_builtin; refine app_int rfl _ _ rfl (w.heap.size + 4) _ fk rfl (HO.out.kept ((Kept.refl _).alloc _)) _ (x : Int) rfl (by simp) hlen (by simp; omega) ?_; intro v7 w7 hown7 _ hb7; have HR7 := Lib.hid ((HR.out.kept ((Kept.refl wr).alloc _)).below hb7 (by omega)); have O7 := Lib.hid hown7; have HK7 : Hid (Kept L0 w7) := Lib.hid (Below.trans (HK.out.alloc _) (Below.mono hb7 (by omega))); have n1 := HR7.out.cell (i := 1) (by simp); have g1 := HR7.out.free 1; obtain ⟨pa, pn, pc, rfl⟩ := hown7.ints.shape; clear hown7 hb7)
        go_roundg (na - (k + 1))
        case measure => omega
        case rel => exact ⟨k + 1, _, by go_num, by omega, Nat.le_refl _, Lib.hid (by rw [HNX.out]; exact O7.out.store_lt (by omega) _ _), Lib.hid (HR7.out.store 1 _), Lib.hid (HK7.out.store (by omega) 1 _)⟩
      · rw [if_neg (by simpa using hxj), List.append_nil] at hnx
        have HO2 : Hid (OwnInts wr (w.heap.size + 4) (.slice oa on oc) (ofN ((l.take (k + 1)).filter (fun x => decide (x < j))))) := Lib.hid (by rw [hnx]; exact HO.out)
        have hxj' : ¬ (x : Int) < (j : Int) := by omega
        clear hnx hfl
        go_wp2
        go_roundg (na - (k + 1))
        case measure => omega
        case rel => exact ⟨k + 1, _, by go_num, by omega, Nat.le_refl _, HO2, HR, HK⟩
    · have hkn : ¬ (k : Int) < (na : Int) := by omega
      have hfl := filter_take_len (fun x => decide (x < j)) l k
      have HOA : Hid (OwnInts wr (w.heap.size + 4) (.slice oa on oc) (ofN (l.filter (fun x => decide (x < j))))) := Lib.hid (by have h := HO.out; rw [show k = na by omega, HNA.out, List.take_length] at h; exact h)
      rw [show k = na by omega, HNA.out, List.take_length] at hfl
      have hlen : (ofN (l.filter (fun x => decide (x < j)))).length < 17592186044416 := by have := HNA.out; simp [ofN] at hfl ⊢; omega
      obtain ⟨fa, hfa⟩ : ∃ fa, fa = l.filter (fun x => decide (x < j)) := ⟨_, rfl⟩
      rw [← hfa] at HFIN HOA hlen hfl
      clear hfa HO
      go_wp2_with (at_builtin; refine app_int rfl _ _ rfl (w.heap.size + 4) _ (ofN fa) rfl (HOA.out.kept ((Kept.refl _).alloc _)) _ (j : Int) rfl (by simp) hlen (by simp; omega) ?_; intro v7 w7 hown7 _ hb7; have HR7 := Lib.hid ((HR.out.kept ((Kept.refl wr).alloc _)).below hb7 (by omega)); have O7 := Lib.hid hown7; have HK7 : Hid (Kept L0 w7) := Lib.hid (Below.trans (HK.out.alloc _) (Below.mono hb7 (by omega))); have n1 := HR7.out.cell (i := 1) (by simp); have g1 := HR7.out.free 1; obtain ⟨pa, pn, pc, rfl⟩ := hown7.ints.shape; have q1 := (HK7.out.cell c1); clear hown7 hb7)
      have HO8 : Hid (OwnInts (w7.setCell ⟨w.heap.size + 1 + 1 + 1, 1, none⟩ (.slice pa pn pc)) (w.heap.size + 4) (.slice pa pn pc) (ofN (fa ++ [j]))) := Lib.hid (by have := O7.out.store_lt (g := w.heap.size + 1 + 1 + 1) (by omega) 1 (.slice pa pn pc); simpa [ofN] using this)
      have HR8 : Hid (RowAt (w7.setCell ⟨w.heap.size + 1 + 1 + 1, 1, none⟩ (.slice pa pn pc)) (w.heap.size + 1 + 1 + 1) 113 [.int .i64 ev, .slice pa pn pc]) := Lib.hid (HR7.out.store 1 _)
      have HK8 : Hid (Kept L0 (w7.setCell ⟨w.heap.size + 1 + 1 + 1, 1, none⟩ (.slice pa pn pc))) := Lib.hid (HK7.out.store (by omega) 1 _)
      clear HOA HR HK O7 HR7 HK7 d1 m1 f1 n1 g1 q1
      go_loopg [58] na (fun kx s58 wr => ∃ (k : Nat) (vo : Value), s58 = .int .i64 k ∧ k ≤ na ∧ na - k ≤ kx ∧ Hid (OwnInts wr (w.heap.size + 4) vo (ofN ((fa ++ [j]) ++ (l.take k).filter (fun x => decide (j < x))))) ∧ Hid (RowAt wr (w.heap.size + 1 + 1 + 1) 113 [.int .i64 ev, vo]) ∧ Hid (Kept L0 wr))
      case atStart => exact ⟨0, _, rfl, Nat.zero_le _, by omega, Lib.hid (by have := HO8.out; simpa using this), HR8, HK8⟩
      case round =>
        obtain ⟨k, vo, rfl, hk, hkx, HO, HR, HK⟩ := hrel
        have d1 := HK.out.cell c1
        have hszr := HR.out.lt
        have m1 := HR.out.cell (i := 1) (by simp)
        have f1 := HR.out.free 1
        simp only [List.getElem_cons_succ, List.getElem_cons_zero] at m1
        obtain ⟨oa, on, oc, rfl⟩ := HO.out.ints.shape
        by_cases hlt : k < na
        · have hkl : k < l.length := by have := HNA.out; omega
          obtain ⟨bb, ob, rfl, hcb0⟩ := HG.out k (by rw [← HNA.out]; exact hlt)
          have hcb := (HK0.out.trans HK.out).cell hcb0
          have hnx := filter_take (fun x => decide (j < x)) l k hkl
          have hfl := filter_take_len (fun x => decide (j < x)) l k
          obtain ⟨x, hx⟩ : ∃ x, x = l[k] := ⟨_, rfl⟩
          rw [← hx] at hcb hnx
          have hkn : (k : Int) < (na : Int) := by omega
          clear hcb0 hx
          by_cases hxj : j < x
          · rw [if_pos (by simpa using hxj)] at hnx
            have hlen : (ofN ((fa ++ [j]) ++ (l.take k).filter (fun x => decide (j < x)))).length < 17592186044416 := by have := HNA.out; simp [ofN] at hfl ⊢; omega
            have hnxi : ofN ((fa ++ [j]) ++ (l.take (k + 1)).filter (fun x => decide (j < x))) = ofN ((fa ++ [j]) ++ (l.take k).filter (fun x => decide (j < x))) ++ [(x : Int)] := by rw [hnx]; simp [ofN]
            have HNX := Lib.hid hnxi
            have hxj' : (j : Int) < (x : Int) := by omega
            clear hnx hnxi hfl
            generalize hfk : ofN ((fa ++ [j]) ++ (l.take k).filter (fun x => decide (j < x))) = fk at *
            go_wp2_with (at_builtin; refine app_int rfl _ _ rfl (w.heap.size + 4) _ fk rfl (HO.out.kept ((Kept.refl _).alloc _)) _ (x : Int) rfl (by simp) hlen (by simp; omega) ?_; intro v7 w7 hown7 _ hb7; have HR7 := Lib.hid ((HR.out.kept ((Kept.refl wr).alloc _)).below hb7 (by omega)); have O7 := Lib.hid hown7; have HK7 : Hid (Kept L0 w7) := Lib.hid (Below.trans (HK.out.alloc _) (Below.mono hb7 (by omega))); have n1 := HR7.out.cell (i := 1) (by simp); have g1 := HR7.out.free 1; obtain ⟨pa, pn, pc, rfl⟩ := hown7.ints.shape; clear hown7 hb7)
            go_roundg (na - (k + 1))
            case measure => omega
            case rel => exact ⟨k + 1, _, by go_num, by omega, Nat.le_refl _, Lib.hid (by rw [HNX.out]; exact O7.out.store_lt (by omega) _ _), Lib.hid (HR7.out.store 1 _), Lib.hid (HK7.out.store (by omega) 1 _)⟩
          · rw [if_neg (by simpa using hxj), List.append_nil] at hnx
            have HO2 : Hid (OwnInts wr (w.heap.size + 4) (.slice oa on oc) (ofN ((fa ++ [j]) ++ (l.take (k + 1)).filter (fun x => decide (j < x))))) := Lib.hid (by rw [hnx]; exact HO.out)
            have hxj' : ¬ (j : Int) < (x : Int) := by omega
            clear hnx hfl
            go_wp2
            go_roundg (na - (k + 1))
            case measure => omega
            case rel => exact ⟨k + 1, _, by go_num, by omega, Nat.le_refl _, HO2, HR, HK⟩
        · have hkn : ¬ (k : Int) < (na : Int) := by omega
          have HN : Hid (OwnInts wr (w.heap.size + 4) (.slice oa on oc) (ofN (nodesOf t))) := Lib.hid (by have h := HO.out; rw [show k = na by omega, HNA.out, List.take_length] at h; rw [HFIN.out]; simpa using h)
          have HR2' := Lib.hid (HR2.out.kept HK.out)
          have p0 := HR2'.out.cell (i := 0) (by simp)
          have p1 := HR2'.out.cell (i := 1) (by simp)
          have p2 := HR2'.out.free 0
          have p3 := HR2'.out.free 1
          have m0 := HR.out.cell (i := 0) (by simp)
          simp only [List.getElem_cons_succ, List.getElem_cons_zero] at m0 p0 p1
          clear HO
          go_wp2
          have HR9 := Lib.hid ((HR2'.out.store 0 (.int .i64 ev)).store 1 (.slice oa on oc))
          have r0 := HR9.out.cell (i := 0) (by simp)
          have r1 := HR9.out.cell (i := 1) (by simp)
          simp only [List.set_cons_succ, List.set_cons_zero, List.getElem_cons_succ, List.getElem_cons_zero] at r0 r1
          exact bodyPost_ret (v := .agg #[.int .i64 ev, .slice oa on oc]) (by simp [results, Tryz.results182, go_sem, r0, r1]) rfl ⟨⟨_, rfl, OwnInts.mono ((HN.out.store_lt (by omega) 0 _).store_lt (by omega) 1 _) (Nat.zero_le _), HZ.out HN.out⟩, ((HK0.out.trans HK.out).store (by omega) 0 _).store (by omega) 1 _⟩
theorem rrwith_any (r V : Nat) (v : Value) (T : Int) (hs : ∃ a n c, v = .slice a n c) (hV : V ≤ 24) (a : Int) (ha : 0 ≤ a ∧ a < (V : Int) + 128) (u : Value) (w : World) (hZ : ∀ z, Z = some z → z < w.heap.size) (hu : NdsAt Z w u r) :
    Calls Tryz.prog 182 #[.agg #[.int .i64 V, v, .int .i64 T], .agg #[.int .i64 (evW r), u], .int .i64 a] w fun e w' => (∃ u', e = .returned (.agg #[.int .i64 (evW (withC V r a)), u']) ∧ NdsAt Z w' u' (withC V r a)) ∧ Kept w w' := by
  unfold withC cond
  by_cases h : a < V
  · rw [if_pos h]
    have := rrwith_ev r a.toNat V v T hs hV (by omega) u w hu
    rw [show ((a.toNat : Nat) : Int) = a by omega] at this
    exact this
  · rw [if_neg h]
    have := rrwith_node r (a - V).toNat V v T hs hV (by omega) u w hZ hu
    rw [show ((V + (a - V).toNat : Nat) : Int) = a by omega] at this
    exact this
end Go.Proofs.YteodabnjkikogaaGreat

/-
  Walks: faultlineref31.choices.
-/
namespace Go.Proofs.YteodabnjkikogaaGreat
open Go.RowKit
variable {Z : Option Nat}

theorem below_cell {B : Nat} {w w' : World} (h : Below B w w') {b o : Nat} (hb : b < B) {v : Value} (hc : w.cell? ⟨b, o, none⟩ = some v) : w'.cell? ⟨b, o, none⟩ = some v := (Below.cell h hb).trans hc
set_option maxRecDepth 100000 in
theorem rch_zero (V m r : Nat) (T room : Int) (fa aa : Option Addr) (fn fc ac : Nat) (u : Value) (W : World) (hu : NdsAt Z W u r) (hr : RowLt 152 r) :
    Calls Tryz.prog 138 #[.agg #[.int .i64 V, .slice fa fn fc, .int .i64 T], .agg #[.int .i64 (evW r), u], .slice aa m ac, .int .i64 0, .int .i64 room] W fun e w' => (∃ v', e = .returned v' ∧ OwnRfs Z w' W.heap.size v' [r]) ∧ Kept W w' := by
  have HU := Lib.hid hu
  obtain ⟨ua, uc, rfl⟩ := hu.shape
  have HR := Lib.hid hr
  obtain ⟨x0, hx0⟩ : ∃ x, x = evW r := ⟨_, rfl⟩
  obtain ⟨un, hun⟩ : ∃ x, x = (nodesOf r).length := ⟨_, rfl⟩
  have HX : Hid (∀ W1 : World, W.heap.size ≤ W1.heap.size → Kept W W1 → OwnRfs Z (W1.alloc (.cells #[.int .i64 x0, .slice ua un uc] 113)) W.heap.size (.slice (some ⟨W1.heap.size, 0, none⟩) 1 1) [r]) := Lib.hid fun W1 h hk => by
    refine OwnRfs.one (u := .slice ua un uc) (by rw [← hx0]; exact heap_alloc_new W1 _) ?_ HR.out h
    have := HU.out.kept (hk.trans ((Kept.refl W1).alloc (.cells #[.int .i64 x0, .slice ua un uc] 113)))
    rw [← hun] at this
    exact this
  rw [← hx0, ← hun]
  clear hu hr hx0 hun HU
  go_enter Tryz.func138, Tryz.ntmps138
  go_wp2
  go_ret
  refine ⟨⟨_, rfl, ?_⟩, (((Kept.refl _).alloc _).alloc _).alloc _⟩
  have := HX.out ((W.alloc (.cells #[.int .i64 V, .slice fa fn fc, .int .i64 T] 24)).alloc (.cells #[.int .i64 x0, .slice ua un uc] 113)) (by simp; omega) (((Kept.refl _).alloc _).alloc _)
  simpa using this
set_option maxRecDepth 100000 in
theorem rch_none (V m k x0 un : Nat) (T room : Int) (fa aa ua : Option Addr) (fn fc ac uc : Nat) (W : World) (hk : k ≠ 0) (h : m < k ∨ room < 0) :
    Calls Tryz.prog 138 #[.agg #[.int .i64 V, .slice fa fn fc, .int .i64 T], .agg #[.int .i64 x0, .slice ua un uc], .slice aa m ac, .int .i64 k, .int .i64 room] W fun e w' => e = .returned (.slice none 0 0) ∧ Kept W w' := by
  have hk0 : ((k : Int) == 0) = false := by simp; omega
  by_cases h1 : m < k
  · have h1' : (m : Int) < (k : Int) := by omega
    clear h hk h1
    go_enter Tryz.func138, Tryz.ntmps138
    go_wp2
    go_ret
    exact ⟨rfl, ((Kept.refl _).alloc _).alloc _⟩
  · have h1' : ¬ (m : Int) < (k : Int) := by omega
    have h2 : room < 0 := h.resolve_left h1
    clear h hk h1
    go_enter Tryz.func138, Tryz.ntmps138
    go_wp2
    go_ret
    exact ⟨rfl, ((Kept.refl _).alloc _).alloc _⟩
set_option maxRecDepth 100000 in
set_option maxHeartbeats 16000000 in
theorem rch_step (V m k k1 b o ac x0 y0 un r1 : Nat) (T a room room2 : Int) (fa ua : Option Addr) (fn fc uc : Nat) (tv : Value) (M1 M2 : List Nat) (W : World) (hk : 1 ≤ k) (hkm : k ≤ m) (hm : m ≤ 200) (hmc : m ≤ ac) (hk1 : k1 = k - 1)
    (hrm : 0 ≤ room ∧ room ≤ 10000) (hl1 : M1.length ≤ 10001) (hl2 : M2.length ≤ 9999) (hr2 : room2 = room - M1.length)
    (htv : (2 ≤ ac ∧ tv = .slice (some ⟨b, o + 1, none⟩) (m - 1) (ac - 1)) ∨ (ac = 1 ∧ tv = .slice (some ⟨b, o, none⟩) 0 0))
    (harg : W.cell? ⟨b, o, none⟩ = some (.int .i64 a))
    (hwith : ∀ W', Kept W W' → Calls Tryz.prog 182 #[.agg #[.int .i64 V, .slice fa fn fc, .int .i64 T], .agg #[.int .i64 x0, .slice ua un uc], .int .i64 a] W' fun e w' => (∃ u', e = .returned (.agg #[.int .i64 y0, u']) ∧ NdsAt Z w' u' r1) ∧ Kept W' w')
    (hc1 : ∀ u' W', Kept W W' → NdsAt Z W' u' r1 → Calls Tryz.prog 138 #[.agg #[.int .i64 V, .slice fa fn fc, .int .i64 T], .agg #[.int .i64 y0, u'], tv, .int .i64 k1, .int .i64 room] W' fun e w' => (∃ v', e = .returned v' ∧ OwnRfs Z w' W'.heap.size v' M1) ∧ Kept W' w')
    (hc2 : ∀ W', Kept W W' → Calls Tryz.prog 138 #[.agg #[.int .i64 V, .slice fa fn fc, .int .i64 T], .agg #[.int .i64 x0, .slice ua un uc], tv, .int .i64 k, .int .i64 room2] W' fun e w' => (∃ v', e = .returned v' ∧ OwnRfs Z w' W'.heap.size v' M2) ∧ Kept W' w') :
    Calls Tryz.prog 138 #[.agg #[.int .i64 V, .slice fa fn fc, .int .i64 T], .agg #[.int .i64 x0, .slice ua un uc], .slice (some ⟨b, o, none⟩) m ac, .int .i64 k, .int .i64 room] W fun e w' => (∃ v', e = .returned v' ∧ OwnRfs Z w' W.heap.size v' (M1 ++ M2)) ∧ Kept W w' := by
  obtain ⟨w1, hw1⟩ : ∃ w1, w1 = (W.alloc (.cells #[.int .i64 V, .slice fa fn fc, .int .i64 T] 24)).alloc (.cells #[.int .i64 x0, .slice ua un uc] 113) := ⟨_, rfl⟩
  have hkw : Kept W w1 := by rw [hw1]; exact ((Kept.refl _).alloc _).alloc _
  have q0 : w1.cell? ⟨W.heap.size, 0, none⟩ = some (.int .i64 V) := by rw [hw1]; simp
  have q1 : w1.cell? ⟨W.heap.size, 1, none⟩ = some (.slice fa fn fc) := by rw [hw1]; simp
  have q2 : w1.cell? ⟨W.heap.size, 2, none⟩ = some (.int .i64 T) := by rw [hw1]; simp
  have q3 : w1.cell? ⟨W.heap.size + 1, 0, none⟩ = some (.int .i64 x0) := by rw [hw1]; simp
  have q4 : w1.cell? ⟨W.heap.size + 1, 1, none⟩ = some (.slice ua un uc) := by rw [hw1]; simp
  have qa := hkw.cell harg
  have HWI : Hid (∀ W', Kept w1 W' → Calls Tryz.prog 182 #[.agg #[.int .i64 V, .slice fa fn fc, .int .i64 T], .agg #[.int .i64 x0, .slice ua un uc], .int .i64 a] W' fun e w' => (∃ u', e = .returned (.agg #[.int .i64 y0, u']) ∧ NdsAt Z w' u' r1) ∧ Kept W' w') := Lib.hid fun W' hk => hwith W' (hkw.trans hk)
  have HC1 : Hid (∀ u' W', Kept w1 W' → NdsAt Z W' u' r1 → Calls Tryz.prog 138 #[.agg #[.int .i64 V, .slice fa fn fc, .int .i64 T], .agg #[.int .i64 y0, u'], tv, .int .i64 k1, .int .i64 room] W' fun e w' => (∃ v', e = .returned v' ∧ OwnRfs Z w' W'.heap.size v' M1) ∧ Kept W' w') := Lib.hid fun u' W' hk hn => hc1 u' W' (hkw.trans hk) hn
  have HC2 : Hid (∀ W', Kept w1 W' → Calls Tryz.prog 138 #[.agg #[.int .i64 V, .slice fa fn fc, .int .i64 T], .agg #[.int .i64 x0, .slice ua un uc], tv, .int .i64 k, .int .i64 room2] W' fun e w' => (∃ v', e = .returned v' ∧ OwnRfs Z w' W'.heap.size v' M2) ∧ Kept W' w') := Lib.hid fun W' hk => hc2 W' (hkw.trans hk)
  have HKW := Lib.hid hkw
  have HSZ1 : Hid (w1.heap.size = W.heap.size + 2) := Lib.hid (by rw [hw1]; simp)
  have HW1 : Hid (w1 = (W.alloc (.cells #[.int .i64 V, .slice fa fn fc, .int .i64 T] 24)).alloc (.cells #[.int .i64 x0, .slice ua un uc] 113)) := Lib.hid hw1
  obtain ⟨n1, hn1⟩ : ∃ n1, n1 = M1.length := ⟨_, rfl⟩
  rw [← hn1] at hl1 hr2
  have HN1 := Lib.hid hn1
  have hl12 : M1.length + M2.length ≤ 20000 := by omega
  have HL12 := Lib.hid hl12
  have hkm' : ¬ (m : Int) < (k : Int) := by omega
  have hk0 : ((k : Int) == 0) = false := by simp; omega
  have hm1 : (0 : Int) < (m : Int) := by omega
  have hm2 : 1 ≤ (m : Int) := by omega
  have hm3 : 0 < m := by omega
  have hk9 : (k : Int) ≤ 200 := by omega
  have hk91 : 1 ≤ (k : Int) := by omega
  have hmac : 1 ≤ (ac : Int) := by omega
  have hkk : (k : Int) - 1 = (k1 : Int) := by omega
  have hrr : room - (n1 : Int) = room2 := by omega
  have hrw : IntKind.i64.wrap room2 = room2 := by rw [IntKind.wrap_i64]; omega
  have hkw1 : IntKind.i64.wrap (k1 : Int) = (k1 : Int) := by rw [IntKind.wrap_i64]; omega
  obtain ⟨hrm0, hrm1⟩ := hrm
  have hr0 : ¬ room < 0 := by omega
  rcases htv with ⟨hac, rfl⟩ | ⟨hac, rfl⟩
  · have hac1 : ¬ ac = 1 := (by omega)
    have hac2 : ¬ (ac : Int) = 1 := (by omega)
    clear hc1 hc2 hwith hkw harg hk1 hk hkm hw1 hr2 hn1 hl12 hl1 hl2
    go_enter Tryz.func138, Tryz.ntmps138
    go_wp2
    rw [← HW1.out]
    go_upto_region 5 with fail
    go_cut [11] (fun p11 wx => ∃ v1, p11 = v1 ∧ Hid (OwnRfs Z wx w1.heap.size v1 M1) ∧ Hid (Kept w1 wx))
    case first =>
      go_region_held3 (fun w' => w'.cell? ⟨W.heap.size, 0, none⟩ = some (.int .i64 V) ∧ w'.cell? ⟨W.heap.size, 1, none⟩ = some (.slice fa fn fc) ∧ w'.cell? ⟨W.heap.size, 2, none⟩ = some (.int .i64 T) ∧ w'.cell? ⟨W.heap.size + 1, 0, none⟩ = some (.int .i64 x0) ∧ w'.cell? ⟨W.heap.size + 1, 1, none⟩ = some (.slice ua un uc) ∧ w'.cell? ⟨b, o, none⟩ = some (.int .i64 a))
        (first | go_keep | exact ⟨hk3.cell q0, hk3.cell q1, hk3.cell q2, hk3.cell q3, hk3.cell q4, hk3.cell qa⟩ | exact ⟨hk4.cell (hk3.cell q0), hk4.cell (hk3.cell q1), hk4.cell (hk3.cell q2), hk4.cell (hk3.cell q3), hk4.cell (hk3.cell q4), hk4.cell (hk3.cell qa)⟩)
        (first | (go_at_call 182; refine (HWI.out _ (Kept.refl _).drew).mono ?_; rintro e w3 ⟨⟨u3, rfl, hu3⟩, hk3⟩; obtain ⟨ua3, uc3, rfl⟩ := hu3.shape; have HU3 := Lib.hid hu3; clear hu3) | (go_at_call 138; refine (HC1.out _ _ ((Kept.refl _).drew.trans hk3) HU3.out).mono ?_; rintro e w4 ⟨⟨v4, rfl, hv4⟩, hk4⟩; obtain ⟨va4, vc4, rfl, _⟩ := hv4.slice; have HV4 := Lib.hid hv4; clear hv4))
      all_goals
        have HV5 := Lib.hid (HV4.out.mono (B' := w1.heap.size) (by have h2 := ((Kept.refl w1).drew.trans hk3).size; omega))
        have HK5 := Lib.hid (((Kept.refl w1).drew.trans hk3).trans hk4)
        clear hk3 hk4
        go_wp2_with fail
        go_meet
        exact ⟨_, rfl, HV5, HK5⟩
    case rest =>
      obtain ⟨v1, rfl, HO1, HK1⟩ := hcut
      obtain ⟨va1, vc1, hv1, _⟩ := HO1.out.slice
      rw [← HN1.out] at hv1
      subst hv1
      have g0 := HK1.out.cell q0
      have g1 := HK1.out.cell q1
      have g2 := HK1.out.cell q2
      have g3 := HK1.out.cell q3
      have g4 := HK1.out.cell q4
      have HC3 : Hid (∀ W', Kept wc W' → Calls Tryz.prog 138 #[.agg #[.int .i64 V, .slice fa fn fc, .int .i64 T], .agg #[.int .i64 x0, .slice ua un uc], .slice (some ⟨b, o + 1, none⟩) (m - 1) (ac - 1), .int .i64 k, .int .i64 room2] W' fun e w' => (∃ v', e = .returned v' ∧ OwnRfs Z w' W'.heap.size v' M2) ∧ Kept W' w') := Lib.hid fun W' hk => HC2.out W' (HK1.out.trans hk)
      have HSZ : Hid (w1.heap.size ≤ wc.heap.size) := Lib.hid HK1.out.size
      clear q0 q1 q2 q3 q4 qa HC1 HC2 HWI hkw1
      go_upto_region 6 with fail
      go_region_held3 (fun w' => w'.cell? ⟨W.heap.size, 0, none⟩ = some (.int .i64 V) ∧ w'.cell? ⟨W.heap.size, 1, none⟩ = some (.slice fa fn fc) ∧ w'.cell? ⟨W.heap.size, 2, none⟩ = some (.int .i64 T) ∧ w'.cell? ⟨W.heap.size + 1, 0, none⟩ = some (.int .i64 x0) ∧ w'.cell? ⟨W.heap.size + 1, 1, none⟩ = some (.slice ua un uc))
        (first | go_keep | exact ⟨hk4.cell g0, hk4.cell g1, hk4.cell g2, hk4.cell g3, hk4.cell g4⟩ | exact ⟨below_cell HB7.out (by have := HSZ1.out; omega) (hk4.cell g0), below_cell HB7.out (by have := HSZ1.out; omega) (hk4.cell g1), below_cell HB7.out (by have := HSZ1.out; omega) (hk4.cell g2), below_cell HB7.out (by have := HSZ1.out; omega) (hk4.cell g3), below_cell HB7.out (by have := HSZ1.out; omega) (hk4.cell g4)⟩)
        (first
          | (go_at_call 138; refine (HC3.out _ ((Kept.refl _).drew)).mono ?_; rintro e w4 ⟨⟨v4, rfl, hv4⟩, hk4⟩; obtain ⟨va4, vc4, rfl, _⟩ := hv4.slice; have HV4 := Lib.hid hv4; clear hv4)
          | (refine step_rfs (by rfl) _ _ (by rfl) w1.heap.size (.slice va1 n1 vc1) M1 (by rfl) (HO1.out.kept ((Kept.refl _).drew.trans hk4)) (.slice va4 M2.length vc4) M2 (by rfl) (HV4.out.mono (Nat.zero_le _)) HL12.out (by have h1 := HSZ.out; have h2 := ((Kept.refl wc).drew.trans hk4).size; omega) ?_; intro v7 w7 h7 hb7; have O7 := Lib.hid h7; have HB7 := Lib.hid hb7; clear h7 hb7))
      all_goals
        obtain ⟨va7, vc7, hv7, _⟩ := O7.out.slice
        subst hv7
        go_wp2
        go_ret
        exact ⟨⟨_, rfl, O7.out.mono HKW.out.size⟩, (HKW.out.trans (HK1.out.trans ((Kept.refl wc).drew.trans hk4))).app (HB7.out.mono HKW.out.size)⟩
  · subst hac
    skip
    clear hc1 hc2 hwith hkw harg hk1 hk hkm hw1 hr2 hn1 hl12 hl1 hl2
    go_enter Tryz.func138, Tryz.ntmps138
    go_wp2
    rw [← HW1.out]
    go_upto_region 5 with fail
    go_cut [11] (fun p11 wx => ∃ v1, p11 = v1 ∧ Hid (OwnRfs Z wx w1.heap.size v1 M1) ∧ Hid (Kept w1 wx))
    case first =>
      go_region_held3 (fun w' => w'.cell? ⟨W.heap.size, 0, none⟩ = some (.int .i64 V) ∧ w'.cell? ⟨W.heap.size, 1, none⟩ = some (.slice fa fn fc) ∧ w'.cell? ⟨W.heap.size, 2, none⟩ = some (.int .i64 T) ∧ w'.cell? ⟨W.heap.size + 1, 0, none⟩ = some (.int .i64 x0) ∧ w'.cell? ⟨W.heap.size + 1, 1, none⟩ = some (.slice ua un uc) ∧ w'.cell? ⟨b, o, none⟩ = some (.int .i64 a))
        (first | go_keep | exact ⟨hk3.cell q0, hk3.cell q1, hk3.cell q2, hk3.cell q3, hk3.cell q4, hk3.cell qa⟩ | exact ⟨hk4.cell (hk3.cell q0), hk4.cell (hk3.cell q1), hk4.cell (hk3.cell q2), hk4.cell (hk3.cell q3), hk4.cell (hk3.cell q4), hk4.cell (hk3.cell qa)⟩)
        (first | (go_at_call 182; refine (HWI.out _ (Kept.refl _).drew).mono ?_; rintro e w3 ⟨⟨u3, rfl, hu3⟩, hk3⟩; obtain ⟨ua3, uc3, rfl⟩ := hu3.shape; have HU3 := Lib.hid hu3; clear hu3) | (go_at_call 138; refine (HC1.out _ _ ((Kept.refl _).drew.trans hk3) HU3.out).mono ?_; rintro e w4 ⟨⟨v4, rfl, hv4⟩, hk4⟩; obtain ⟨va4, vc4, rfl, _⟩ := hv4.slice; have HV4 := Lib.hid hv4; clear hv4))
      all_goals
        have HV5 := Lib.hid (HV4.out.mono (B' := w1.heap.size) (by have h2 := ((Kept.refl w1).drew.trans hk3).size; omega))
        have HK5 := Lib.hid (((Kept.refl w1).drew.trans hk3).trans hk4)
        clear hk3 hk4
        go_wp2_with fail
        go_meet
        exact ⟨_, rfl, HV5, HK5⟩
    case rest =>
      obtain ⟨v1, rfl, HO1, HK1⟩ := hcut
      obtain ⟨va1, vc1, hv1, _⟩ := HO1.out.slice
      rw [← HN1.out] at hv1
      subst hv1
      have g0 := HK1.out.cell q0
      have g1 := HK1.out.cell q1
      have g2 := HK1.out.cell q2
      have g3 := HK1.out.cell q3
      have g4 := HK1.out.cell q4
      have HC3 : Hid (∀ W', Kept wc W' → Calls Tryz.prog 138 #[.agg #[.int .i64 V, .slice fa fn fc, .int .i64 T], .agg #[.int .i64 x0, .slice ua un uc], .slice (some ⟨b, o, none⟩) 0 0, .int .i64 k, .int .i64 room2] W' fun e w' => (∃ v', e = .returned v' ∧ OwnRfs Z w' W'.heap.size v' M2) ∧ Kept W' w') := Lib.hid fun W' hk => HC2.out W' (HK1.out.trans hk)
      have HSZ : Hid (w1.heap.size ≤ wc.heap.size) := Lib.hid HK1.out.size
      clear q0 q1 q2 q3 q4 qa HC1 HC2 HWI hkw1
      go_upto_region 6 with fail
      go_region_held3 (fun w' => w'.cell? ⟨W.heap.size, 0, none⟩ = some (.int .i64 V) ∧ w'.cell? ⟨W.heap.size, 1, none⟩ = some (.slice fa fn fc) ∧ w'.cell? ⟨W.heap.size, 2, none⟩ = some (.int .i64 T) ∧ w'.cell? ⟨W.heap.size + 1, 0, none⟩ = some (.int .i64 x0) ∧ w'.cell? ⟨W.heap.size + 1, 1, none⟩ = some (.slice ua un uc))
        (first | go_keep | exact ⟨hk4.cell g0, hk4.cell g1, hk4.cell g2, hk4.cell g3, hk4.cell g4⟩ | exact ⟨below_cell HB7.out (by have := HSZ1.out; omega) (hk4.cell g0), below_cell HB7.out (by have := HSZ1.out; omega) (hk4.cell g1), below_cell HB7.out (by have := HSZ1.out; omega) (hk4.cell g2), below_cell HB7.out (by have := HSZ1.out; omega) (hk4.cell g3), below_cell HB7.out (by have := HSZ1.out; omega) (hk4.cell g4)⟩)
        (first
          | (go_at_call 138; refine (HC3.out _ ((Kept.refl _).drew)).mono ?_; rintro e w4 ⟨⟨v4, rfl, hv4⟩, hk4⟩; obtain ⟨va4, vc4, rfl, _⟩ := hv4.slice; have HV4 := Lib.hid hv4; clear hv4)
          | (refine step_rfs (by rfl) _ _ (by rfl) w1.heap.size (.slice va1 n1 vc1) M1 (by rfl) (HO1.out.kept ((Kept.refl _).drew.trans hk4)) (.slice va4 M2.length vc4) M2 (by rfl) (HV4.out.mono (Nat.zero_le _)) HL12.out (by have h1 := HSZ.out; have h2 := ((Kept.refl wc).drew.trans hk4).size; omega) ?_; intro v7 w7 h7 hb7; have O7 := Lib.hid h7; have HB7 := Lib.hid hb7; clear h7 hb7))
      all_goals
        obtain ⟨va7, vc7, hv7, _⟩ := O7.out.slice
        subst hv7
        go_wp2
        go_ret
        exact ⟨⟨_, rfl, O7.out.mono HKW.out.size⟩, (HKW.out.trans (HK1.out.trans ((Kept.refl wc).drew.trans hk4))).app (HB7.out.mono HKW.out.size)⟩
set_option maxRecDepth 100000 in
theorem rchoices_any (V : Nat) (T : Int) (v0 : Value) (hs : ∃ a n c, v0 = .slice a n c) (hV : V ≤ 24) :
    ∀ (args : List Int) (va : Value) (W0 : World), (∀ z, Z = some z → z < W0.heap.size) → IntsAt W0 va args → (∀ a ∈ args, 0 ≤ a ∧ a < (V : Int) + 128) → args.length ≤ 100 → ∀ (k r : Nat) (room : Int) (u : Value) (W : World), Kept W0 W → NdsAt Z W u r → RowLt 152 r → k ≤ 1000 → -10 ≤ room → room ≤ 9998 →
      Calls Tryz.prog 138 #[.agg #[.int .i64 V, v0, .int .i64 T], .agg #[.int .i64 (evW r), u], va, .int .i64 k, .int .i64 room] W fun e w' => (∃ v', e = .returned v' ∧ OwnRfs Z w' W.heap.size v' (refCh V args k r room)) ∧ Kept W w' := by
  obtain ⟨fa, fn, fc, rfl⟩ := hs
  intro args
  induction args with
  | nil =>
    intro va W0 hZ hva _ _ k r room u W hW hu hr _ _ _
    obtain ⟨aa, an, ac, rfl⟩ := hva.shape
    have han : an = 0 := by
      obtain ⟨_, _, h, _⟩ := hva
      injection h
    subst han
    by_cases hk0 : k = 0
    · subst hk0
      rw [refCh_zero]
      exact rch_zero V 0 r T room fa aa fn fc ac u W hu hr
    · obtain ⟨ua, uc, rfl⟩ := hu.shape
      refine (rch_none V 0 k (evW r) (nodesOf r).length T room fa aa ua fn fc ac uc W hk0 (.inl (by omega))).mono fun e w' ⟨he, hk⟩ => ⟨⟨_, he, ?_⟩, hk⟩
      unfold refCh
      rw [if_neg hk0]
      exact OwnRfs.nil _ _
  | cons a l ih =>
    intro va W0 hZ hva hargs hal k r room u W hW hu hr hk hr0 hr9
    have hvW := hva.kept hW
    obtain ⟨aa, an, ac, rfl⟩ := hva.shape
    have han : an = l.length + 1 := by
      obtain ⟨_, _, h, _⟩ := hva
      injection h
    subst han
    by_cases hk0 : k = 0
    · subst hk0
      rw [refCh_zero]
      exact rch_zero V _ r T room fa aa fn fc ac u W hu hr
    · by_cases hno : l.length + 1 < k ∨ room < 0
      · obtain ⟨ua, uc, rfl⟩ := hu.shape
        refine (rch_none V _ k (evW r) (nodesOf r).length T room fa aa ua fn fc ac uc W hk0 hno).mono fun e w' ⟨he, hk⟩ => ⟨⟨_, he, ?_⟩, hk⟩
        unfold refCh
        rw [if_neg hk0, if_pos hno]
        exact OwnRfs.nil _ _
      · have hlt : ∀ x ∈ l, 0 ≤ x ∧ x < (V : Int) + 128 := fun x hx => hargs x (List.mem_cons_of_mem _ hx)
        have ha := hargs a (List.mem_cons_self ..)
        have hr1 : RowLt 152 (withC V r a) := rowLt_or hr (rowLt_mono (rowLt_cond (V := V) (m := 128) (by omega) hV) (by omega))
        have hac : l.length + 1 ≤ ac := by
          obtain ⟨_, _, h1, h2, _⟩ := hva
          injection h1 with _ _ h3
          rw [h3]; simpa using h2.1
        obtain ⟨b, o, rfl, hca⟩ : ∃ b o, aa = some ⟨b, o, none⟩ ∧ W.cell? ⟨b, o, none⟩ = some (.int .i64 a) := by
          obtain ⟨a', c', h1, _, _, h4⟩ := hvW
          injection h1 with h1 h2 h3
          obtain ⟨b, o, h5, h6⟩ := h4 0 (by simp)
          exact ⟨b, o, by rw [h1, h5], by simpa using h6⟩
        obtain ⟨ua, uc, rfl⟩ := hu.shape
        simp at hal
        have hlen1 : (refCh V l (k - 1) (withC V r a) room).length ≤ room.toNat + 1 := by
          by_cases e : k - 1 = 0
          · rw [e, refCh_zero]; simp
          · have := refCh_len V l (k - 1) (withC V r a) room e; omega
        have hlen2 := refCh_len V l k r (room - (refCh V l (k - 1) (withC V r a) room).length) hk0
        have htail : ∃ tv, ((2 ≤ ac ∧ tv = .slice (some ⟨b, o + 1, none⟩) (l.length + 1 - 1) (ac - 1)) ∨ (ac = 1 ∧ tv = .slice (some ⟨b, o, none⟩) 0 0)) ∧ IntsAt W tv l := by
          by_cases h2 : 2 ≤ ac
          · exact ⟨_, .inl ⟨h2, rfl⟩, ints_tail hvW h2⟩
          · have hl0 : l = [] := List.eq_nil_of_length_eq_zero (by omega)
            subst hl0
            exact ⟨_, .inr ⟨by omega, rfl⟩, ⟨some ⟨b, o, none⟩, 0, rfl, ⟨by simp, fun h => by cases h⟩, by simp, fun i hi => by simp at hi⟩⟩
        obtain ⟨tv, htv, hti⟩ := htail
        have e1 : refCh V (a :: l) k r room = refCh V l (k - 1) (withC V r a) room ++ refCh V l k r (room - (refCh V l (k - 1) (withC V r a) room).length) := by
          conv => lhs; unfold refCh
          rw [if_neg hk0, if_neg hno]
        rw [e1]
        refine rch_step V (l.length + 1) k (k - 1) b o ac (evW r) (evW (withC V r a)) (nodesOf r).length (withC V r a) T a room _ fa ua fn fc uc tv _ _ W (by omega) (by omega) (by omega) hac rfl ⟨by omega, by omega⟩ (by omega) (by omega) rfl htv hca
          (fun W' hk' => rrwith_any r V (.slice fa fn fc) T ⟨_, _, _, rfl⟩ hV a ha _ W' (fun z hz => by have h1 := hZ z hz; have h2 := hW.size; have h3 := hk'.size; omega) (hu.kept hk'))
          (fun u' W' hk' hu' => ih tv W (fun z hz => by have h1 := hZ z hz; have h2 := hW.size; omega) hti hlt (by omega) (k - 1) (withC V r a) room u' W' hk' hu' hr1 (by omega) hr0 hr9)
          (fun W' hk' => ih tv W (fun z hz => by have h1 := hZ z hz; have h2 := hW.size; omega) hti hlt (by omega) k r _ _ W' hk' (hu.kept hk') hr hk (by omega) (by omega))
end Go.Proofs.YteodabnjkikogaaGreat

/-
  Walks: faultlineref31.Expand.
-/
namespace Go.Proofs.YteodabnjkikogaaGreat
open Go.RowKit
variable {Z : Option Nat}

theorem NdsAt.room {w : World} {a : Option Addr} {n c r : Nat} (h : NdsAt Z w (.slice a n c) r) : n = (nodesOf r).length ∧ n ≤ c := by
  obtain ⟨a', c', h1, h2, _⟩ := OwnInts.ints h.1
  injection h1 with h1 h3 h4
  rw [h4, h3]
  exact ⟨by simp [ofN], h2.1⟩
theorem expK_one (V : Nat) (x : Nd) (i : Nat) (L : List Nat) (k : Nat) (h : k < L.length) : (expR V x i L[k]).length ≤ (expK V x i L).length := by
  have h1 := expK_take V x i L k h
  have h2 := expK_len_take V x i L (k + 1)
  rw [h1, List.length_append] at h2
  omega
set_option maxRecDepth 100000 in
set_option maxHeartbeats 16000000 in
theorem rexpand_any (B V i b o n c T : Nat) (x : Nd) (ua : Option Addr) (um uc : Nat) (v : Value) (L : List Nat) (w : World) (hZ : ∀ z, Z = some z → z < w.heap.size) (hV : V ≤ 24) (hv : OwnRfs Z w B v L) (hl : L.length ≤ 1024) (hi : i < 128) (hin : i < n)
    (hnd : w.rangeAt b (o + i * 3) [.int .i64 x.kind, .int .i64 x.k, .slice ua um uc]) (hia : IntsAt w (.slice ua um uc) x.args)
    (hargs : ∀ a ∈ x.args, 0 ≤ a ∧ a < (V : Int) + 128) (h16 : x.args.length ≤ 16) (hkd : x.kind = 0 ∨ x.kind = 2 ∨ x.kind = 3 ∨ x.kind = 4) (h4 : x.kind = 4 → 1 ≤ x.k ∧ x.k ≤ x.args.length)
    (hne : x.kind ≠ 0 → 1 ≤ x.args.length) (hmax : ∀ r ∈ L, ∀ j, r.testBit (24 + j) = true → j ≤ i) :
    Calls Tryz.prog 77 #[.agg #[.int .i64 V, .slice (some ⟨b, o, none⟩) n c, .int .i64 T], v, .int .i64 i] w fun e w' =>
      ((4096 < (expK V x i L).length ∧ ∃ v', e = .returned (.tuple #[v', .bool true])) ∨ ((expK V x i L).length ≤ 4096 ∧ ∃ v', e = .returned (.tuple #[v', .bool false]) ∧ OwnRfs Z w' w.heap.size v' (expK V x i L))) ∧ Kept w w' := by
  have HV := Lib.hid hv
  obtain ⟨sa, sc, rfl, _⟩ := hv.slice
  obtain ⟨ln, hln⟩ : ∃ n, n = L.length := ⟨_, rfl⟩
  rw [← hln] at HV hl ⊢
  have HLN := Lib.hid hln
  have HMX := Lib.hid hmax
  have HND := Lib.hid hnd
  obtain ⟨kd, kk, args⟩ := x
  simp only at hia hargs h16 hkd h4 hne HND
  have hum : um = args.length := by
    obtain ⟨_, _, h, _⟩ := hia
    injection h
  have HUM := Lib.hid hum
  have hum9 : um ≤ 16 := by omega
  obtain ⟨x, hx⟩ : ∃ x, x = (⟨kd, kk, args⟩ : Nd) := ⟨_, rfl⟩
  rw [← hx]
  -- what a kind makes of a row
  have HCH : Hid (∀ (K : Nat) (W : World) (q : Nat) (u : Value), K ≤ 1000 → Kept w W → NdsAt Z W u q → RowLt 152 q → Calls Tryz.prog 138 #[.agg #[.int .i64 V, .slice (some ⟨b, o, none⟩) n c, .int .i64 T], .agg #[.int .i64 (evW q), u], .slice ua um uc, .int .i64 K, .int .i64 4096] W fun e w' => (∃ v', e = .returned v' ∧ OwnRfs Z w' W.heap.size v' (refCh V args K q 4096)) ∧ Kept W w') := Lib.hid fun K W q u hK hk hu hq =>
    rchoices_any V T _ ⟨_, _, _, rfl⟩ hV args _ w hZ hia hargs (by omega) K q 4096 u W hk hu hq hK (by omega) (by omega)
  have HEX : Hid (∀ q, (kd = 2 → expandK V x i q = chooseK V args args.length (sdiff q (2 ^ (24 + i)))) ∧ (kd = 3 → expandK V x i q = chooseK V args 1 (sdiff q (2 ^ (24 + i)))) ∧ (kd = 4 → expandK V x i q = chooseK V args kk.toNat (sdiff q (2 ^ (24 + i)))) ∧ (kd = 0 → expandK V x i q = if kk = 1 then [sdiff q (2 ^ (24 + i))] else [])) := Lib.hid fun q => by
    rw [hx]
    unfold expandK
    refine ⟨fun h => ?_, fun h => ?_, fun h => ?_, fun h => ?_⟩
    · simp only [h]; rw [if_neg (by decide), if_pos trivial, chooseK_all]
    · simp only [h]; rw [if_neg (by decide), if_neg (by decide), if_pos trivial, chooseK_one]
    · simp only [h]; rw [if_neg (by decide), if_neg (by decide), if_neg (by decide)]
    · simp only [h]; rw [if_pos trivial]
  have HRF : Hid (∀ (K q : Nat), K ≠ 0 → (refCh V args K q 4096).length ≤ 4097 ∧ ((chooseK V args K q).length ≤ 4096 → refCh V args K q 4096 = chooseK V args K q) ∧ (4096 < (chooseK V args K q).length → 4096 < (refCh V args K q 4096).length)) := Lib.hid fun K q hK => by
    have h1 := refCh_spec V args K q 4096 (by omega)
    have h2 := refCh_len V args K q 4096 hK
    exact ⟨by omega, fun h => h1.1 (by omega), fun h => by have := h1.2 (by omega); omega⟩
  have hinI : (i : Int) < (n : Int) := by omega
  clear hv hln hmax hnd hia hargs h16 hum hx hZ
  go_enter Tryz.func77, Tryz.ntmps77
  go_wp2_with (with_reducible refine wpList_load_mid rfl 64 _ rfl b (o + i * 3) rfl _ _ (range_kept HND.out ((Kept.refl _).alloc _)) Tryz.underlying64 rfl (by kernel_rfl) ?_)
  obtain ⟨L1, hL1⟩ : ∃ W : World, W = (w.alloc (.cells #[.int .i64 V, .slice (some ⟨b, o, none⟩) n c, .int .i64 T] 24)).alloc (.cells #[.int .i64 kd, .int .i64 kk, .slice ua um uc] 64) := ⟨_, rfl⟩
  have HL1 := Lib.hid hL1
  have HKL : Hid (Kept w L1) := Lib.hid (by rw [hL1]; exact ((Kept.refl _).alloc _).alloc _)
  have c0 : L1.cell? ⟨w.heap.size, 0, none⟩ = some (.int .i64 V) := by rw [hL1]; simp
  have c1 : L1.cell? ⟨w.heap.size, 1, none⟩ = some (.slice (some ⟨b, o, none⟩) n c) := by rw [hL1]; simp
  have c2 : L1.cell? ⟨w.heap.size, 2, none⟩ = some (.int .i64 T) := by rw [hL1]; simp
  have m0 : L1.cell? ⟨w.heap.size + 1, 0, none⟩ = some (.int .i64 kd) := by rw [hL1]; simp
  have m1 : L1.cell? ⟨w.heap.size + 1, 1, none⟩ = some (.int .i64 kk) := by rw [hL1]; simp
  have m2 : L1.cell? ⟨w.heap.size + 1, 2, none⟩ = some (.slice ua um uc) := by rw [hL1]; simp
  clear hL1
  go_loopg [9, 20] ln (fun kx s9 s20 wr => ∃ (k : Nat) (vo : Value), s9 = vo ∧ s20 = .int .i64 k ∧ k ≤ ln ∧ ln - k ≤ kx ∧ Hid (OwnRfs Z wr L1.heap.size vo (expK V x i (L.take k)) ∧ (expK V x i (L.take k)).length ≤ 4096 + k) ∧ Hid (Kept L1 wr))
  case atStart => exact ⟨0, _, rfl, rfl, Nat.zero_le _, by omega, Lib.hid ⟨by simpa [expK] using OwnRfs.nil _ _, by simp [expK]⟩, Lib.hid (by rw [HL1.out]; exact Kept.refl _)⟩
  case round =>
    obtain ⟨k, vo, rfl, rfl, hk, hkx, HO, HK⟩ := hrel
    obtain ⟨oa, oc, hvo, _⟩ := HO.out.1.slice
    obtain ⟨on, hon⟩ : ∃ on, on = (expK V x i (L.take k)).length := ⟨_, rfl⟩
    have hol := HO.out.2
    rw [← hon] at hvo hol
    subst hvo
    have HON := Lib.hid hon
    have HKW := Lib.hid (HKL.out.trans HK.out)
    have hszw := HK.out.size
    clear hon
    by_cases hlt : k < ln
    · have hkl : k < L.length := by have := HLN.out; omega
      obtain ⟨b2, qa, qm, qc, rfl, hqm, hqn, hrg⟩ := (HV.out.kept HKW.out).get k hkl
      have hqr := HV.out.lt L[k] (List.getElem_mem _)
      have hqx := HMX.out L[k] (List.getElem_mem _)
      have hnext := expK_take V x i L k hkl
      have hone := expK_one V x i L k hkl
      obtain ⟨q, hqq⟩ : ∃ q, q = L[k] := ⟨_, rfl⟩
      rw [← hqq] at hqm hqn hrg hqr hqx hnext hone
      unfold expR at hnext hone
      have hkn : (k : Int) < (ln : Int) := by omega
      have hq9 : qm ≤ 128 := by rw [hqm]; exact nodesOf_len q
      have hqc := hqn.room.2
      obtain ⟨q0, hq0⟩ : ∃ y, y = evW q := ⟨_, rfl⟩
      have HQ0 := Lib.hid hq0
      have HRG : Hid (wr.rangeAt b2 (k * 2) [.int .i64 q0, .slice qa qm qc]) := Lib.hid (by rw [hq0]; exact hrg)
      have HQR := Lib.hid hqr
      have HQN := Lib.hid hqn
      clear hrg hqq hq0
      cases hb : q.testBit (24 + i) with
      | false =>
        rw [hb] at hnext
        rw [if_neg (by simp)] at hnext
        have HNX := Lib.hid hnext
        have hlen20 : on < 20000 := by omega
        have HAP : Hid (∀ W, Kept wr W → OwnRfs Z W L1.heap.size (.slice oa on oc) (expK V x i (L.take k))) := Lib.hid fun W hk => HO.out.1.kept hk
        by_cases hz : nodesOf q = []
        · have hm0 : qm = 0 := by rw [hqm, hz]; rfl
          subst hm0
          clear hz hqm hqn hqr hqx hnext hone hb
          go_wp2_with (first | (with_reducible refine wpList_load_mid rfl 113 _ rfl b2 (k * 2) rfl _ _ HRG.out Tryz.underlying113 rfl (by kernel_rfl) ?_) | (at_builtin; refine app_rf rfl _ _ rfl L1.heap.size _ (expK V x i (L.take k)) rfl (HAP.out _ (((Kept.refl _).alloc _).alloc _)) (wr.heap.size + 1) q (.slice qa 0 qc) rfl (two_range (by rw [← HQ0.out]; simp) (by simp)) (HQN.out.kept (((Kept.refl _).alloc _).alloc _)) HQR.out (by rw [← HON.out]; exact hlen20) (by simp; omega) ?_; intro v7 w7 hown7 hb7; have O7 := Lib.hid hown7; have HB7 := Lib.hid hb7; clear hown7 hb7))
          go_roundg (ln - (k + 1))
          case measure => omega
          case rel => exact ⟨k + 1, _, rfl, by go_num, by omega, Nat.le_refl _, Lib.hid ⟨by rw [HNX.out]; exact O7.out, by rw [HNX.out, List.length_append, ← HON.out]; simp; omega⟩, Lib.hid (((HK.out.alloc _).alloc _).app HB7.out)⟩
        · obtain ⟨l, y, hly⟩ : ∃ l y, nodesOf q = l ++ [y] := ⟨_, _, (List.dropLast_concat_getLast hz).symm⟩
          have hu1 : qm = l.length + 1 := by rw [hqm, hly]; simp
          have hym : y ∈ nodesOf q := by rw [hly]; simp
          have hyb := (mem_nodesOf.1 hym).2
          have hyi : y ≠ i := by rintro rfl; rw [hb] at hyb; cases hyb
          obtain ⟨bu, ou, rfl, hcu⟩ := hqn.get l.length (by rw [hly]; simp)
          have hgx : (nodesOf q)[l.length]'(by rw [hly]; simp) = y := by simp [hly]
          rw [hgx] at hcu
          obtain ⟨m, hm⟩ : ∃ m, m = l.length := ⟨_, rfl⟩
          rw [← hm] at hcu hu1
          have b1 : ((y : Int) != (i : Int)) = true := by simp; omega
          have e2 : ((qm : Int) == 0) = false := by simp; omega
          have q1 : (qm : Int) - 1 = (m : Int) := by omega
          have hcu2 := ((Kept.refl wr).alloc (.cells #[.int .i64 q0, .slice (some ⟨bu, ou, none⟩) qm qc] 113)).cell hcu
          clear hz hqm hqn hqr hqx hnext hone hb hly hym hyb hyi hgx hm hcu hu1
          go_wp2_with (first | (with_reducible refine wpList_load_mid rfl 113 _ rfl b2 (k * 2) rfl _ _ HRG.out Tryz.underlying113 rfl (by kernel_rfl) ?_) | (at_builtin; refine app_rf rfl _ _ rfl L1.heap.size _ (expK V x i (L.take k)) rfl (HAP.out _ (((Kept.refl _).alloc _).alloc _)) (wr.heap.size + 1) q (.slice (some ⟨bu, ou, none⟩) qm qc) rfl (two_range (by rw [← HQ0.out]; simp) (by simp)) (HQN.out.kept (((Kept.refl _).alloc _).alloc _)) HQR.out (by rw [← HON.out]; exact hlen20) (by simp; omega) ?_; intro v7 w7 hown7 hb7; have O7 := Lib.hid hown7; have HB7 := Lib.hid hb7; clear hown7 hb7))
          go_roundg (ln - (k + 1))
          case measure => omega
          case rel => exact ⟨k + 1, _, rfl, by go_num, by omega, Nat.le_refl _, Lib.hid ⟨by rw [HNX.out]; exact O7.out, by rw [HNX.out, List.length_append, ← HON.out]; simp; omega⟩, Lib.hid (((HK.out.alloc _).alloc _).app HB7.out)⟩
      | true =>
        rw [hb] at hnext hone
        rw [if_pos rfl] at hnext hone
        have HNX := Lib.hid hnext
        have HONE := Lib.hid hone
        have hdr := nodesOf_drop q i hi hb (hqx)
        obtain ⟨q', hq'⟩ : ∃ z, z = sdiff q (2 ^ (24 + i)) := ⟨_, rfl⟩
        have hev' : evW q' = evW q := by rw [hq']; exact evW_sd q i
        have hrl' : RowLt 152 q' := by
          rw [hq']
          intro j hj
          rw [bit_sd_pow] at hj
          simp only [Bool.and_eq_true] at hj
          exact hqr j hj.1
        rw [← hq'] at hdr
        have hqm1 : qm = (nodesOf q').length + 1 := by rw [hqm, hdr]; simp
        have hpre := hqn.prefix hdr
        obtain ⟨bu, ou, rfl, hcu⟩ := hqn.get (nodesOf q').length (by rw [hdr]; simp)
        have hgx : (nodesOf q)[(nodesOf q').length]'(by rw [hdr]; simp) = i := by simp [hdr]
        rw [hgx] at hcu
        obtain ⟨m, hm⟩ : ∃ m, m = qm - 1 := ⟨_, rfl⟩
        rw [show (nodesOf q').length = m by omega] at hcu
        rw [← hm] at hpre
        have b1 : ((i : Int) != (i : Int)) = false := by simp
        have e2 : ((qm : Int) == 0) = false := by simp; omega
        have q1 : (qm : Int) - 1 = (m : Int) := by omega
        have q2 : (0 : Int) ≤ (m : Int) := by omega
        have q3 : (m : Int) ≤ (qc : Int) := by omega
        have hcu2 := ((Kept.refl wr).alloc (.cells #[.int .i64 q0, .slice (some ⟨bu, ou, none⟩) qm qc] 113)).cell hcu
        have HQ' := Lib.hid hq'
        have HRL := Lib.hid hrl'
        have HPRE := Lib.hid hpre
        have HEV : Hid (q0 = evW q') := Lib.hid (by rw [hev']; exact HQ0.out)
        clear hqm hqn hqr hqx hnext hone hb hdr hgx hm hcu hq' hev' hrl' hpre hqm1
        go_wp2_with (with_reducible refine wpList_load_mid rfl 113 _ rfl b2 (k * 2) rfl _ _ HRG.out Tryz.underlying113 rfl (by kernel_rfl) ?_)
        go_cut [12] (fun p12 wx => p12 = .pointer (some ⟨wr.heap.size + 1, 0, none⟩) ∧ wx.cell? ⟨wr.heap.size + 1, 0, none⟩ = some (.int .i64 q0) ∧ wx.cell? ⟨wr.heap.size + 1, 1, none⟩ = some (.slice (some ⟨bu, ou, none⟩) m qc) ∧ Hid (Kept wr wx))
        case first =>
          go_region
          all_goals go_wp2
          all_goals go_meet
          all_goals exact ⟨rfl, by simp, by simp, Lib.hid (by first | exact ((Kept.refl _).alloc _).alloc _ | exact (((Kept.refl _).alloc _).alloc _).drew)⟩
        case rest =>
          obtain ⟨rfl, p0, p1, HKX⟩ := hcut
          have HKLX := Lib.hid (HK.out.trans HKX.out)
          have d0 := HKLX.out.cell c0
          have d1 := HKLX.out.cell c1
          have d2 := HKLX.out.cell c2
          have n0 := HKLX.out.cell m0
          have n1 := HKLX.out.cell m1
          have n2 := HKLX.out.cell m2
          have hszx := HKX.out.size
          have HOX := Lib.hid (HO.out.1.kept HKX.out)
          have HC1 : Hid (∀ (K : Nat), K ≤ 1000 → Calls Tryz.prog 138 #[.agg #[.int .i64 V, .slice (some ⟨b, o, none⟩) n c, .int .i64 T], .agg #[.int .i64 q0, .slice (some ⟨bu, ou, none⟩) m qc], .slice ua um uc, .int .i64 K, .int .i64 4096] wc fun e w' => (∃ v', e = .returned v' ∧ OwnRfs Z w' wc.heap.size v' (refCh V args K q' 4096)) ∧ Kept wc w') := Lib.hid fun K hK => by
            rw [HEV.out]
            exact HCH.out K wc q' _ hK (HKL.out.trans HKLX.out) (HPRE.out.kept HKX.out) HRL.out
          have HEQ := HEX.out q
          rw [← HQ'.out] at HEQ
          have HEQ2 := Lib.hid HEQ
          have HON2 : Hid ((expK V x i (L.take k)).length ≤ 5200) := Lib.hid (by rw [← HON.out]; omega)
          clear HEQ hcu2 b1 e2 q1 q2 q3 HRG
          go_upto_block 2 with fail
          go_cut [9] (fun p9 wy => ∃ (v9 : Value) (M : List Nat), p9 = v9 ∧ Hid (OwnRfs Z wy L1.heap.size v9 (expK V x i (L.take k) ++ M)) ∧ Hid (M.length ≤ 4097 ∧ (M = expandK V x i q ∨ (4096 < M.length ∧ 4096 < (expandK V x i q).length))) ∧ Hid (Kept L1 wy))
          case first =>
            rcases hkd with rfl | rfl | rfl | rfl
            · by_cases hk1 : kk = 1
              · subst hk1
                go_wp2_with (at_builtin; refine app_rf rfl _ _ rfl L1.heap.size _ (expK V x i (L.take k)) rfl (HOX.out.kept ((Kept.refl _).alloc _)) wc.heap.size q' (.slice (some ⟨bu, ou, none⟩) m qc) rfl (two_range (by rw [← HEV.out]; simp) (by simp)) (HPRE.out.kept (HKX.out.alloc _)) HRL.out (by have := HON2.out; omega) (by simp; omega) ?_; intro v7 w7 hown7 hb7; have O7 := Lib.hid hown7; have HB7 := Lib.hid hb7; clear hown7 hb7)
                go_meet
                exact ⟨_, [q'], rfl, O7, Lib.hid ⟨by simp, .inl (by rw [HEQ2.out.2.2.2 (by trivial)]; simp)⟩, Lib.hid ((HKLX.out.alloc _).app HB7.out)⟩
              · have hk1' : (kk == 1) = false := by simpa using hk1
                go_wp2
                go_meet
                exact ⟨_, [], rfl, Lib.hid (by rw [List.append_nil]; exact HOX.out), Lib.hid ⟨by simp, .inl (by rw [HEQ2.out.2.2.2 (by trivial)]; simp [hk1])⟩, HKLX⟩
            · have HC := HC1.out um (by omega)
              have HC2 := Lib.hid HC
              have hum0 : um ≠ 0 := by have := hne (by decide); have := HUM.out; omega
              have HRR := Lib.hid (HRF.out um q' hum0)
              clear HC
              go_wp2_with (first
                | (go_at_call 138; refine HC2.out.mono ?_; rintro e w4 ⟨⟨v4, rfl, hv4⟩, hk4⟩; have HV4 := Lib.hid hv4; have HK4 := Lib.hid hk4; obtain ⟨va4, vc4, rfl, _⟩ := hv4.slice; clear hv4 hk4)
                | (at_builtin; refine app_rfs rfl _ _ rfl L1.heap.size _ (expK V x i (L.take k)) rfl (HOX.out.kept HK4.out) _ _ rfl (HV4.out.mono (Nat.zero_le _)) (by have := HON2.out; have := HRR.out.1; omega) (by have := HK4.out.size; omega) ?_; intro v7 w7 hown7 hb7; have O7 := Lib.hid hown7; have HB7 := Lib.hid hb7; clear hown7 hb7))
              go_meet
              exact ⟨_, _, rfl, O7, Lib.hid ⟨HRR.out.1, by
                rw [HEQ2.out.1 (by trivial), ← HUM.out]
                by_cases h : (chooseK V args um q').length ≤ 4096
                · exact .inl (HRR.out.2.1 h)
                · exact .inr ⟨HRR.out.2.2 (by omega), by omega⟩⟩, Lib.hid ((HKLX.out.trans HK4.out).app HB7.out)⟩
            · have HC2 := Lib.hid (HC1.out 1 (by omega))
              have HRR := Lib.hid (HRF.out 1 q' (by omega))
              go_wp2_with (first
                | (go_at_call 138; refine HC2.out.mono ?_; rintro e w4 ⟨⟨v4, rfl, hv4⟩, hk4⟩; have HV4 := Lib.hid hv4; have HK4 := Lib.hid hk4; obtain ⟨va4, vc4, rfl, _⟩ := hv4.slice; clear hv4 hk4)
                | (at_builtin; refine app_rfs rfl _ _ rfl L1.heap.size _ (expK V x i (L.take k)) rfl (HOX.out.kept HK4.out) _ _ rfl (HV4.out.mono (Nat.zero_le _)) (by have := HON2.out; have := HRR.out.1; omega) (by have := HK4.out.size; omega) ?_; intro v7 w7 hown7 hb7; have O7 := Lib.hid hown7; have HB7 := Lib.hid hb7; clear hown7 hb7))
              go_meet
              exact ⟨_, _, rfl, O7, Lib.hid ⟨HRR.out.1, by
                rw [HEQ2.out.2.1 (by trivial)]
                by_cases h : (chooseK V args 1 q').length ≤ 4096
                · exact .inl (HRR.out.2.1 h)
                · exact .inr ⟨HRR.out.2.2 (by omega), by omega⟩⟩, Lib.hid ((HKLX.out.trans HK4.out).app HB7.out)⟩
            · obtain ⟨K, rfl⟩ := Int.eq_ofNat_of_zero_le (show 0 ≤ kk by have := h4 rfl; omega)
              have h4' := h4 rfl
              have HC2 := Lib.hid (HC1.out K (by have := HUM.out; omega))
              have HRR := Lib.hid (HRF.out K q' (by omega))
              clear h4'
              go_wp2_with (first
                | (go_at_call 138; refine HC2.out.mono ?_; rintro e w4 ⟨⟨v4, rfl, hv4⟩, hk4⟩; have HV4 := Lib.hid hv4; have HK4 := Lib.hid hk4; obtain ⟨va4, vc4, rfl, _⟩ := hv4.slice; clear hv4 hk4)
                | (at_builtin; refine app_rfs rfl _ _ rfl L1.heap.size _ (expK V x i (L.take k)) rfl (HOX.out.kept HK4.out) _ _ rfl (HV4.out.mono (Nat.zero_le _)) (by have := HON2.out; have := HRR.out.1; omega) (by have := HK4.out.size; omega) ?_; intro v7 w7 hown7 hb7; have O7 := Lib.hid hown7; have HB7 := Lib.hid hb7; clear hown7 hb7))
              go_meet
              exact ⟨_, _, rfl, O7, Lib.hid ⟨HRR.out.1, by
                rw [HEQ2.out.2.2.1 (by trivial), Int.toNat_natCast]
                by_cases h : (chooseK V args K q').length ≤ 4096
                · exact .inl (HRR.out.2.1 h)
                · exact .inr ⟨HRR.out.2.2 (by omega), by omega⟩⟩, Lib.hid ((HKLX.out.trans HK4.out).app HB7.out)⟩
          case rest =>
            obtain ⟨v9, M, rfl, HO9, HM9, HK9⟩ := hcut
            obtain ⟨a9, c9, hv9, _⟩ := HO9.out.slice
            obtain ⟨n9, hn9⟩ : ∃ n, n = (expK V x i (L.take k) ++ M).length := ⟨_, rfl⟩
            rw [← hn9] at hv9
            subst hv9
            have HN9 := Lib.hid hn9
            clear hn9 d0 d1 d2 n0 n1 n2 p0 p1
            by_cases hbig : 4096 < n9
            · have hbig' : (n9 : Int) > 4096 := by omega
              go_wp2
              go_ret2
              refine ⟨.inl ⟨?_, _, rfl⟩, HKL.out.trans HK9.out⟩
              rcases HM9.out.2 with h | ⟨_, h⟩
              · have h2 := expK_len_take V x i L (k + 1)
                rw [HNX.out, ← h] at h2
                have := HN9.out
                omega
              · exact Nat.lt_of_lt_of_le h HONE.out
            · have hbig' : ¬ (n9 : Int) > 4096 := by omega
              have hM : M = expandK V x i q := by
                rcases HM9.out.2 with h | ⟨h, _⟩
                · exact h
                · have := HN9.out
                  rw [List.length_append] at this
                  omega
              have HF : Hid (OwnRfs Z wc L1.heap.size (.slice a9 n9 c9) (expK V x i (L.take (k + 1))) ∧ (expK V x i (L.take (k + 1))).length ≤ 4096 + (k + 1)) := Lib.hid (by
                rw [HNX.out, ← hM]
                exact ⟨HO9.out, by rw [← HN9.out]; omega⟩)
              clear hM
              go_wp2
              go_roundg (ln - (k + 1))
              case measure => omega
              case rel => exact ⟨k + 1, _, rfl, by go_num, by omega, Nat.le_refl _, HF, HK9⟩
    · have hkn : ¬ (k : Int) < (ln : Int) := by omega
      have hfull : expK V x i (L.take k) = expK V x i L := by rw [show k = ln by omega, HLN.out, List.take_length]
      have HFU := Lib.hid hfull
      clear hfull
      by_cases hbig : 4096 < on
      · have hbig' : (on : Int) > 4096 := by omega
        go_wp2
        go_ret2
        exact ⟨.inl ⟨by rw [← HFU.out, ← HON.out]; exact hbig, _, rfl⟩, HKW.out⟩
      · have hbig' : ¬ (on : Int) > 4096 := by omega
        go_wp2
        go_ret2
        exact ⟨.inr ⟨by rw [← HFU.out, ← HON.out]; omega, _, rfl, by have := HO.out.1; rw [HFU.out] at this; exact this.mono HKL.out.size⟩, HKW.out⟩
end Go.Proofs.YteodabnjkikogaaGreat

/-
  Walks: faultlineref31.Minimal.
-/
namespace Go.Proofs.YteodabnjkikogaaGreat
open Go.RowKit
variable {Z : Option Nat}

def keptTo (L : List Nat) (i m : Nat) : Bool := (List.range m).all fun j => !outAt L i j
theorem keptTo_succ (L : List Nat) (i j : Nat) : keptTo L i (j + 1) = (keptTo L i j && !outAt L i j) := by
  unfold keptTo
  rw [List.range_succ, List.all_append]; simp
theorem getD_get (L : List Nat) (i : Nat) (h : i < L.length) : L.getD i 0 = L[i] := by
  rw [List.getD_eq_getElem?_getD, List.getElem?_eq_getElem h]; rfl
set_option maxRecDepth 100000 in
set_option maxHeartbeats 8000000 in
theorem rminimal_any (B : Nat) (v : Value) (L : List Nat) (w : World) (hv : OwnRfs Z w B v L) : Calls Tryz.prog 79 #[v] w fun e w' => (∃ v', e = .returned v' ∧ OwnRfs Z w' w.heap.size v' (refMin L)) ∧ Kept w w' := by
  have HV := Lib.hid hv
  have hl9 := hv.len
  obtain ⟨sa, sc, rfl, _⟩ := hv.slice
  obtain ⟨n, hn⟩ : ∃ n, n = L.length := ⟨_, rfl⟩
  rw [← hn] at HV hl9 ⊢
  have HN := Lib.hid hn
  clear hn hv
  go_enter Tryz.func79, Tryz.ntmps79
  go_wp2
  go_loopg [3, 11] n (fun kx s3 s11 wr => ∃ (i : Nat) (vo : Value), s3 = vo ∧ s11 = .int .i64 i ∧ i ≤ n ∧ n - i ≤ kx ∧ Hid (OwnRfs Z wr w.heap.size vo (refMinTo L i)) ∧ Hid (Kept w wr))
  case atStart => exact ⟨0, _, rfl, rfl, Nat.zero_le _, by omega, Lib.hid (OwnRfs.nil _ _), Lib.hid (Kept.refl _)⟩
  case round =>
    obtain ⟨wo, rfl⟩ : ∃ wo : World, wo = wr := ⟨_, rfl⟩
    obtain ⟨i, vo, rfl, rfl, hi, hix, HO, HK⟩ := hrel
    obtain ⟨oa, oc, hvo, _⟩ := HO.out.slice
    obtain ⟨on, hon⟩ : ∃ on, on = (refMinTo L i).length := ⟨_, rfl⟩
    rw [← hon] at hvo
    subst hvo
    have HON := Lib.hid hon
    clear hon
    by_cases hlt : i < n
    · have hil : i < L.length := by have := HN.out; omega
      obtain ⟨b, ia, im, ic, rfl, him, hnd, hrg⟩ := (HV.out.kept HK.out).get i hil
      have hc152 : RowLt 152 L[i] := HV.out.lt _ (List.getElem_mem _)
      have HRG := Lib.hid hrg
      have HND := Lib.hid hnd
      have HRL := Lib.hid hc152
      have hin : (i : Int) < (n : Int) := by omega
      have him9 : im ≤ 128 := by rw [him]; exact nodesOf_len _
      have HGI := Lib.hid (getD_get L i hil)
      have hsz := HK.out.size
      obtain ⟨x, hx⟩ : ∃ x, x = L[i] := ⟨_, rfl⟩
      rw [← hx] at HRG HND HRL HGI
      obtain ⟨x0, hx0⟩ : ∃ y, y = evW x := ⟨_, rfl⟩
      have HX0 := Lib.hid hx0
      rw [← hx0] at HRG
      clear hrg hnd hc152 him hx hx0
      go_wp2_with (with_reducible refine wpList_load_mid rfl 113 _ rfl b (i * 2) rfl _ _ HRG.out Tryz.underlying113 rfl (by kernel_rfl) ?_)
      obtain ⟨L5, hL5⟩ : ∃ W : World, W = wo.alloc (.cells #[.int .i64 x0, .slice ia im ic] 113) := ⟨_, rfl⟩
      have HL5 := Lib.hid hL5
      have HK5 : Hid (Kept wo L5) := Lib.hid (by rw [hL5]; exact (Kept.refl _).alloc _)
      have e0 : L5.cell? ⟨wo.heap.size, 0, none⟩ = some (.int .i64 x0) := by rw [hL5]; simp
      have e1 : L5.cell? ⟨wo.heap.size, 1, none⟩ = some (.slice ia im ic) := by rw [hL5]; simp
      clear hL5
      go_loopg [6, 18] n (fun kx s6 s18 wr => ∃ (j : Nat) (bb : Bool), s6 = .bool bb ∧ s18 = .int .i64 j ∧ j ≤ n ∧ n - j ≤ kx ∧ Hid (bb = keptTo L i j) ∧ Hid (Kept L5 wr))
      case atStart => exact ⟨0, true, rfl, rfl, Nat.zero_le _, by omega, Lib.hid rfl, Lib.hid (by rw [HL5.out]; exact Kept.refl _)⟩
      case round =>
        obtain ⟨j, bb, rfl, rfl, hj, hjx, HB, HKJ⟩ := hrel
        have d0 := HKJ.out.cell e0
        have d1 := HKJ.out.cell e1
        by_cases hlj : j < n
        · have hjl : j < L.length := by have := HN.out; omega
          obtain ⟨b', ja, jm, jc, hbb, hjm, hndj, hrgj⟩ := (HV.out.kept ((HK.out.trans HK5.out).trans HKJ.out)).get j hjl
          have hbb2 : b = b' := by simpa using hbb
          subst hbb2
          have hcj : RowLt 152 L[j] := HV.out.lt _ (List.getElem_mem _)
          have hjn : (j : Int) < (n : Int) := by omega
          have hjm9 : jm ≤ 128 := by rw [hjm]; exact nodesOf_len _
          have hst := keptTo_succ L i j
          unfold outAt at hst
          rw [HGI.out, getD_get L j hjl, ← HB.out] at hst
          obtain ⟨y, hy⟩ : ∃ y, y = L[j] := ⟨_, rfl⟩
          rw [← hy] at hndj hrgj hcj hst
          have HP1 : Hid (∀ W, Kept wr W → Calls Tryz.prog 140 #[.agg #[.int .i64 (evW y), .slice ja jm jc], .agg #[.int .i64 x0, .slice ia im ic]] W fun e w' => e = .returned (.bool (subN y x)) ∧ Kept W w') := Lib.hid fun W hk => by
            rw [HX0.out]
            exact rrpart_any hcj _ _ W (hndj.kept hk) (HND.out.kept ((HK5.out.trans HKJ.out).trans hk))
          have HP2 : Hid (∀ W, Kept wr W → Calls Tryz.prog 140 #[.agg #[.int .i64 x0, .slice ia im ic], .agg #[.int .i64 (evW y), .slice ja jm jc]] W fun e w' => e = .returned (.bool (subN x y)) ∧ Kept W w') := Lib.hid fun W hk => by
            rw [HX0.out]
            exact rrpart_any HRL.out _ _ W (HND.out.kept ((HK5.out.trans HKJ.out).trans hk)) (hndj.kept hk)
          have HRGJ := Lib.hid hrgj
          clear hndj hrgj hcj hjm hy hbb
          generalize subN y x = p1 at *
          generalize subN x y = p2 at *
          generalize evW y = y0 at *
          by_cases hij : i = j
          · have b0 : ((i : Int) != (j : Int)) = false := by simp; omega
            rw [show decide (i ≠ j) = false by simpa using hij] at hst
            have HST : Hid (bb = keptTo L i (j + 1)) := Lib.hid (by rw [hst]; simp)
            clear hst hij HP1 HP2
            go_wp2_with (with_reducible refine wpList_load_mid rfl 113 _ rfl b (j * 2) rfl _ _ HRGJ.out Tryz.underlying113 rfl (by kernel_rfl) ?_)
            go_roundg (n - (j + 1))
            case measure => omega
            case rel => exact ⟨j + 1, bb, rfl, by go_num, by omega, Nat.le_refl _, HST, Lib.hid (HKJ.out.alloc _)⟩
          · have b0 : ((i : Int) != (j : Int)) = true := by simp; omega
            rw [show decide (i ≠ j) = true by simpa using hij] at hst
            have d0' := ((Kept.refl wr).alloc (.cells #[.int .i64 y0, .slice ja jm jc] 113)).cell d0
            have d1' := ((Kept.refl wr).alloc (.cells #[.int .i64 y0, .slice ja jm jc] 113)).cell d1
            cases p1 with
            | false =>
              have HST : Hid (bb = keptTo L i (j + 1)) := Lib.hid (by rw [hst]; simp)
              clear hst hij HP2
              go_wp2_with (first | (with_reducible refine wpList_load_mid rfl 113 _ rfl b (j * 2) rfl _ _ HRGJ.out Tryz.underlying113 rfl (by kernel_rfl) ?_) | (go_at_call 140; (with_reducible refine (HP1.out _ ((Kept.refl wr).alloc _)).mono ?_); rintro e w4 ⟨rfl, hk4⟩))
              go_roundg (n - (j + 1))
              case measure => omega
              case rel => exact ⟨j + 1, bb, rfl, by go_num, by omega, Nat.le_refl _, HST, Lib.hid ((HKJ.out.alloc _).trans hk4)⟩
            | true =>
              cases p2 with
              | false =>
                have HST : Hid (false = keptTo L i (j + 1)) := Lib.hid (by rw [hst]; simp)
                clear hst hij
                go_wp2_with (first | (with_reducible refine wpList_load_mid rfl 113 _ rfl b (j * 2) rfl _ _ HRGJ.out Tryz.underlying113 rfl (by kernel_rfl) ?_) | (go_at_call 140; (with_reducible refine (HP1.out _ ((Kept.refl wr).alloc _)).mono ?_); rintro e w4 ⟨rfl, hk4⟩; have HK4 := Lib.hid (((Kept.refl wr).alloc _).trans hk4); have g0 := hk4.cell d0'; have g1 := hk4.cell d1'; have h0 := hk4.cell (p := ⟨wr.heap.size, 0, none⟩) (v := .int .i64 y0) (by simp); have h1 := hk4.cell (p := ⟨wr.heap.size, 1, none⟩) (v := .slice ja jm jc) (by simp); clear hk4) | (go_at_call 140; (with_reducible refine (HP2.out _ HK4.out).mono ?_); rintro e w5 ⟨rfl, hk5⟩))
                go_roundg (n - (j + 1))
                case measure => omega
                case rel => exact ⟨j + 1, false, rfl, by go_num, by omega, Nat.le_refl _, HST, Lib.hid (HKJ.out.trans (HK4.out.trans hk5))⟩
              | true =>
                by_cases hji : j < i
                · have hji' : (j : Int) < (i : Int) := by omega
                  have HST : Hid (false = keptTo L i (j + 1)) := Lib.hid (by rw [hst]; simp [hji])
                  clear hst hij hji
                  go_wp2_with (first | (with_reducible refine wpList_load_mid rfl 113 _ rfl b (j * 2) rfl _ _ HRGJ.out Tryz.underlying113 rfl (by kernel_rfl) ?_) | (go_at_call 140; (with_reducible refine (HP1.out _ ((Kept.refl wr).alloc _)).mono ?_); rintro e w4 ⟨rfl, hk4⟩; have HK4 := Lib.hid (((Kept.refl wr).alloc _).trans hk4); have g0 := hk4.cell d0'; have g1 := hk4.cell d1'; have h0 := hk4.cell (p := ⟨wr.heap.size, 0, none⟩) (v := .int .i64 y0) (by simp); have h1 := hk4.cell (p := ⟨wr.heap.size, 1, none⟩) (v := .slice ja jm jc) (by simp); clear hk4) | (go_at_call 140; (with_reducible refine (HP2.out _ HK4.out).mono ?_); rintro e w5 ⟨rfl, hk5⟩))
                  go_roundg (n - (j + 1))
                  case measure => omega
                  case rel => exact ⟨j + 1, false, rfl, by go_num, by omega, Nat.le_refl _, HST, Lib.hid (HKJ.out.trans (HK4.out.trans hk5))⟩
                · have hji' : ¬ (j : Int) < (i : Int) := by omega
                  have HST : Hid (bb = keptTo L i (j + 1)) := Lib.hid (by rw [hst]; simp [hji])
                  clear hst hij hji
                  go_wp2_with (first | (with_reducible refine wpList_load_mid rfl 113 _ rfl b (j * 2) rfl _ _ HRGJ.out Tryz.underlying113 rfl (by kernel_rfl) ?_) | (go_at_call 140; (with_reducible refine (HP1.out _ ((Kept.refl wr).alloc _)).mono ?_); rintro e w4 ⟨rfl, hk4⟩; have HK4 := Lib.hid (((Kept.refl wr).alloc _).trans hk4); have g0 := hk4.cell d0'; have g1 := hk4.cell d1'; have h0 := hk4.cell (p := ⟨wr.heap.size, 0, none⟩) (v := .int .i64 y0) (by simp); have h1 := hk4.cell (p := ⟨wr.heap.size, 1, none⟩) (v := .slice ja jm jc) (by simp); clear hk4) | (go_at_call 140; (with_reducible refine (HP2.out _ HK4.out).mono ?_); rintro e w5 ⟨rfl, hk5⟩))
                  go_roundg (n - (j + 1))
                  case measure => omega
                  case rel => exact ⟨j + 1, bb, rfl, by go_num, by omega, Nat.le_refl _, HST, Lib.hid (HKJ.out.trans (HK4.out.trans hk5))⟩
        · have hjn : ¬ (j : Int) < (n : Int) := by omega
          have hsucc := refMinTo_succ L i
          have hkb : keptAt L i = bb := by
            rw [HB.out, show j = n by omega, HN.out]; rfl
          rw [hkb, HGI.out] at hsucc
          clear hkb
          cases bb with
          | false =>
            have HF : Hid (OwnRfs Z wr w.heap.size (.slice oa on oc) (refMinTo L (i + 1))) := Lib.hid (by rw [hsucc]; simpa using HO.out.kept (HK5.out.trans HKJ.out))
            clear hsucc
            go_wp2
            go_roundg (n - (i + 1))
            case measure => omega
            case rel => exact ⟨i + 1, _, rfl, by go_num, by omega, Nat.le_refl _, HF, Lib.hid (HK.out.trans (HK5.out.trans HKJ.out))⟩
          | true =>
            have hlen := refMinTo_len L i
            have HSU := Lib.hid hsucc
            have hszj := (HK5.out.trans HKJ.out).size
            clear hsucc
            go_wp2_with (at_builtin; refine app_rf rfl _ _ rfl w.heap.size _ (refMinTo L i) rfl (HO.out.kept ((HK5.out.trans HKJ.out).alloc _)) wr.heap.size x (.slice ia im ic) rfl (two_range (by rw [← HX0.out]; simp) (by simp)) (HND.out.kept ((HK5.out.trans HKJ.out).alloc _)) HRL.out (by omega) (by simp; omega) ?_; intro v7 w7 hown7 hb7; have O7 := Lib.hid hown7; have HB7 := Lib.hid hb7; clear hown7 hb7)
            go_roundg (n - (i + 1))
            case measure => omega
            case rel => exact ⟨i + 1, _, rfl, by go_num, by omega, Nat.le_refl _, Lib.hid (by rw [HSU.out]; exact O7.out), Lib.hid (((HK.out.trans (HK5.out.trans HKJ.out)).alloc _).app HB7.out)⟩
    · have hin : ¬ (i : Int) < (n : Int) := by omega
      have HF : Hid (OwnRfs Z wo w.heap.size (.slice oa on oc) (refMin L)) := Lib.hid (by have h := HO.out; rw [show i = n by omega, HN.out] at h; exact h)
      go_wp2
      go_ret
      exact ⟨⟨_, rfl, HF.out⟩, HK.out⟩
end Go.Proofs.YteodabnjkikogaaGreat

/-
  Walks: faultlineref08.Valid, node, Check.
-/
namespace Go.Proofs.YteodabnjkikogaaGreat
open Go.RowKit

set_option maxRecDepth 100000 in
set_option maxHeartbeats 8000000 in
theorem rnode_any (vars top : Int) (v : Value) (xs : List Nd) (i : Nat) (w : World) (hv : NodesAt w v xs) (hi : i < xs.length) (h0 : 0 ≤ vars) (h24 : vars ≤ 24) (hi9 : i ≤ 1000) :
    Calls Tryz.prog 36 #[.agg #[.int .i64 vars, v, .int .i64 top], .int .i64 i] w fun e w' => e = .returned (.int .i64 (chkNd (vars + i) xs[i])) ∧ Kept w w' := by
  obtain ⟨a, c, rfl, _, hl, hx⟩ := hv
  obtain ⟨b, o, rfl, u, hc1, hc2, hc3, hI⟩ := hx i hi
  obtain ⟨nl, hnl⟩ : ∃ nl, nl = xs.length := ⟨_, rfl⟩
  obtain ⟨x, hxx⟩ : ∃ x, x = xs[i] := ⟨_, rfl⟩
  rw [← hxx] at hc1 hc2 hI ⊢
  rw [← hnl] at hi hl ⊢
  obtain ⟨kind, k, args⟩ := x
  obtain ⟨aa, ca, rfl, _, hla, hca⟩ := hI
  simp only at hc1 hc2 hc3
  obtain ⟨n, hn⟩ : ∃ n, n = args.length := ⟨_, rfl⟩
  simp only at hca hla
  rw [← hn] at hc3 hla
  have HC := Lib.hid hca
  have HN := Lib.hid hn
  have hlt : (i : Int) < (nl : Int) := by omega
  have HR := Lib.hid (fun w' (hk : Kept w w') => node_range (hk.cell hc1) (hk.cell hc2) (hk.cell hc3))
  have hsum : vars + (i : Int) ≤ 1024 ∧ 0 ≤ vars + (i : Int) := by omega
  clear hx hxx hca hnl hn hc1 hc2 hc3
  unfold chkNd
  simp only
  by_cases hk : kind < 0 ∨ 5 < kind
  · rw [if_pos hk]
    have e0 : (kind == 0) = false := by simp; omega
    have e1 : (kind == 1) = false := by simp; omega
    have e2 : (kind == 2) = false := by simp; omega
    have e3 : (kind == 3) = false := by simp; omega
    have e4 : (kind == 4) = false := by simp; omega
    have e5 : (kind == 5) = false := by simp; omega
    clear hk
    go_enter Tryz.func36, Tryz.ntmps36
    go_wp2_with (refine wpList_load_mid rfl 64 _ rfl b (o + i * 3) rfl _ _ (HR.out _ ((Kept.refl _).alloc _)) Tryz.underlying64 rfl (by kernel_rfl) ?_)
    go_ret
    exact ⟨rfl, ((Kept.refl _).alloc _).alloc _⟩
  · rw [if_neg hk]
    have hn2 : args.length = n := HN.out.symm
    rw [hn2]
    clear hn2
    cases hao : argsOk kind n with
    | false =>
      rw [if_pos rfl]
      have hcs : (kind = 0 ∧ 0 < n) ∨ (kind = 1 ∧ n < 1) ∨ (kind = 1 ∧ 1 < n) ∨ ((kind = 2 ∨ kind = 3 ∨ kind = 4 ∨ kind = 5) ∧ n < 1) ∨ ((kind = 2 ∨ kind = 3 ∨ kind = 4 ∨ kind = 5) ∧ 16 < n) := by
        unfold argsOk at hao
        split at hao
        · simp at hao; omega
        · split at hao
          · simp at hao; omega
          · simp at hao; omega
      clear hao hk
      rcases hcs with ⟨rfl, h⟩ | ⟨rfl, h⟩ | ⟨rfl, h⟩ | ⟨(rfl | rfl | rfl | rfl), h⟩ | ⟨(rfl | rfl | rfl | rfl), h⟩
      · have h' : (0 : Int) < (n : Int) := by omega
        clear h
        go_enter Tryz.func36, Tryz.ntmps36
        go_wp2_with (refine wpList_load_mid rfl 64 _ rfl b (o + i * 3) rfl _ _ (HR.out _ ((Kept.refl _).alloc _)) Tryz.underlying64 rfl (by kernel_rfl) ?_)
        go_ret
        exact ⟨rfl, ((Kept.refl _).alloc _).alloc _⟩
      · have h' : (n : Int) < 1 := by omega
        clear h
        go_enter Tryz.func36, Tryz.ntmps36
        go_wp2_with (refine wpList_load_mid rfl 64 _ rfl b (o + i * 3) rfl _ _ (HR.out _ ((Kept.refl _).alloc _)) Tryz.underlying64 rfl (by kernel_rfl) ?_)
        go_ret
        exact ⟨rfl, ((Kept.refl _).alloc _).alloc _⟩
      · have h' : (1 : Int) < (n : Int) := by omega
        clear h
        go_enter Tryz.func36, Tryz.ntmps36
        go_wp2_with (refine wpList_load_mid rfl 64 _ rfl b (o + i * 3) rfl _ _ (HR.out _ ((Kept.refl _).alloc _)) Tryz.underlying64 rfl (by kernel_rfl) ?_)
        go_ret
        exact ⟨rfl, ((Kept.refl _).alloc _).alloc _⟩
      · have h' : (n : Int) < 1 := by omega
        clear h
        go_enter Tryz.func36, Tryz.ntmps36
        go_wp2_with (refine wpList_load_mid rfl 64 _ rfl b (o + i * 3) rfl _ _ (HR.out _ ((Kept.refl _).alloc _)) Tryz.underlying64 rfl (by kernel_rfl) ?_)
        go_ret
        exact ⟨rfl, ((Kept.refl _).alloc _).alloc _⟩
      · have h' : (n : Int) < 1 := by omega
        clear h
        go_enter Tryz.func36, Tryz.ntmps36
        go_wp2_with (refine wpList_load_mid rfl 64 _ rfl b (o + i * 3) rfl _ _ (HR.out _ ((Kept.refl _).alloc _)) Tryz.underlying64 rfl (by kernel_rfl) ?_)
        go_ret
        exact ⟨rfl, ((Kept.refl _).alloc _).alloc _⟩
      · have h' : (n : Int) < 1 := by omega
        clear h
        go_enter Tryz.func36, Tryz.ntmps36
        go_wp2_with (refine wpList_load_mid rfl 64 _ rfl b (o + i * 3) rfl _ _ (HR.out _ ((Kept.refl _).alloc _)) Tryz.underlying64 rfl (by kernel_rfl) ?_)
        go_ret
        exact ⟨rfl, ((Kept.refl _).alloc _).alloc _⟩
      · have h' : (n : Int) < 1 := by omega
        clear h
        go_enter Tryz.func36, Tryz.ntmps36
        go_wp2_with (refine wpList_load_mid rfl 64 _ rfl b (o + i * 3) rfl _ _ (HR.out _ ((Kept.refl _).alloc _)) Tryz.underlying64 rfl (by kernel_rfl) ?_)
        go_ret
        exact ⟨rfl, ((Kept.refl _).alloc _).alloc _⟩
      all_goals
        have h' : (16 : Int) < (n : Int) := by omega
        clear h
        go_enter Tryz.func36, Tryz.ntmps36
        go_wp2_with (refine wpList_load_mid rfl 64 _ rfl b (o + i * 3) rfl _ _ (HR.out _ ((Kept.refl _).alloc _)) Tryz.underlying64 rfl (by kernel_rfl) ?_)
        go_ret
        exact ⟨rfl, ((Kept.refl _).alloc _).alloc _⟩
    | true =>
      rw [if_neg (by simp)]
      have hcs : (kind = 0 ∨ kind = 1 ∨ kind = 2 ∨ kind = 3 ∨ kind = 4 ∨ kind = 5) ∧ (kind = 0 → (n : Int) ≤ 0) ∧ (kind ≠ 0 → (1 : Int) ≤ (n : Int)) ∧ (kind = 1 → (n : Int) ≤ 1) ∧ (n : Int) ≤ 16 := by
        unfold argsOk at hao
        split at hao
        · simp at hao; omega
        · split at hao
          · simp at hao; omega
          · simp at hao; omega
      obtain ⟨r, hr⟩ : ∃ r, r = (if args.all (fun a => decide (0 ≤ a ∧ a < vars + (i : Int))) = false then 10 else chkK kind k n) := ⟨_, rfl⟩
      rw [← hr]
      have HRR := Lib.hid hr
      clear hr hao hk
      obtain ⟨hcs, q0, q1, q2, q3⟩ := hcs
      rcases hcs with rfl | rfl | rfl | rfl | rfl | rfl
      · have q0' := q0 rfl
        clear q0 q1 q2
        go_enter Tryz.func36, Tryz.ntmps36
        go_wp2_with (refine wpList_load_mid rfl 64 _ rfl b (o + i * 3) rfl _ _ (HR.out _ ((Kept.refl _).alloc _)) Tryz.underlying64 rfl (by kernel_rfl) ?_)
        go_loop [9, 41] (fun _ j => ∃ q : Nat, q ≤ n ∧ j = .int .i64 q ∧ Hid (∀ x ∈ args.take q, 0 ≤ x ∧ x < vars + (i : Int))) (fun _ j => n - (intOf j).toNat)
        case atStart => exact ⟨0, Nat.zero_le _, rfl, Lib.hid (by simp)⟩
        case round =>
          obtain ⟨q, hq, rfl, HF⟩ := hrel
          have hqn : ¬ q < n := by omega
          have hall := HRR.out
          rw [if_neg (by
            have hh := HF.out
            rw [List.take_of_length_le (by have := HN.out; omega)] at hh
            rw [Bool.not_eq_false, List.all_eq_true]
            intro z hz; exact decide_eq_true (hh z hz))] at hall
          unfold chkK at hall
          by_cases k0 : k = 0
          · subst k0
            simp at hall
            subst hall
            go_wp2; go_ret; exact ⟨rfl, ((Kept.refl _).alloc _).alloc _⟩
          · have b0 : (k == 0) = false := by simpa using k0
            have b2 : (k != 0) = true := by simpa using k0
            by_cases k1 : k = 1
            · subst k1
              simp at hall
              try rw [if_pos (by omega)] at hall
              subst hall
              clear b0 b2 k0
              go_wp2; go_ret; exact ⟨rfl, ((Kept.refl _).alloc _).alloc _⟩
            · have b1 : (k == 1) = false := by simpa using k1
              have b3 : (k != 1) = true := by simpa using k1
              simp [k0, k1] at hall
              subst hall
              clear k0 k1
              go_wp2; go_ret; exact ⟨rfl, ((Kept.refl _).alloc _).alloc _⟩
      all_goals
        have q0' := Lib.hid q0
        simp at q0 q1 q2
        go_enter Tryz.func36, Tryz.ntmps36
        go_wp2_with (refine wpList_load_mid rfl 64 _ rfl b (o + i * 3) rfl _ _ (HR.out _ ((Kept.refl _).alloc _)) Tryz.underlying64 rfl (by kernel_rfl) ?_)
        go_loop [9, 41] (fun _ j => ∃ q : Nat, q ≤ n ∧ j = .int .i64 q ∧ Hid (∀ x ∈ args.take q, 0 ≤ x ∧ x < vars + (i : Int))) (fun _ j => n - (intOf j).toNat)
        case atStart => exact ⟨0, Nat.zero_le _, rfl, Lib.hid (by simp)⟩
        case round =>
          obtain ⟨q, hq, rfl, HF⟩ := hrel
          by_cases hqn : q < n
          · have hqx : q < args.length := by have := HN.out; omega
            obtain ⟨b2, o2, rfl, hc0⟩ := HC.out q hqx
            have hcell := fun X Y => (((Kept.refl w).alloc X).alloc Y).cell hc0
            obtain ⟨y, hy⟩ : ∃ y, y = args[q] := ⟨_, rfl⟩
            rw [← hy] at hcell
            have HY := Lib.hid hy
            have hcell2 := hcell (.cells #[.int .i64 vars, .slice (some ⟨b, o, none⟩) nl c, .int .i64 top] 24)
            have hcell3 := fun kk => hcell2 (.cells #[.int .i64 kk, .int .i64 k, .slice (some ⟨b2, o2, none⟩) n ca] 64)
            have g0 := hcell3 0
            have g1 := hcell3 1
            have g2 := hcell3 2
            have g3 := hcell3 3
            have g4 := hcell3 4
            have g5 := hcell3 5
            clear hc0 hy hcell hcell2 hcell3
            by_cases hy0 : y < 0
            · go_wp2
              go_ret
              refine ⟨?_, ((Kept.refl _).alloc _).alloc _⟩
              rw [HRR.out, if_pos]
              · rfl
              · rw [List.all_eq_false]
                exact ⟨y, by rw [HY.out]; exact List.getElem_mem _, by simp; omega⟩
            · by_cases hy1 : y < vars + (i : Int)
              · go_wp2
                go_round
                case rel =>
                  refine ⟨q + 1, by omega, by go_num, Lib.hid ?_⟩
                  intro z hz
                  rw [List.take_succ_eq_append_getElem hqx] at hz
                  rcases List.mem_append.1 hz with hz | hz
                  · exact HF.out z hz
                  · simp at hz; rw [hz, ← HY.out]; omega
                case measure => simp [intOf]; omega
              · go_wp2
                go_ret
                refine ⟨?_, ((Kept.refl _).alloc _).alloc _⟩
                rw [HRR.out, if_pos]
                · rfl
                · rw [List.all_eq_false]
                  exact ⟨y, by rw [HY.out]; exact List.getElem_mem _, by simp; omega⟩
          · have hall := HRR.out
            rw [if_neg (by
              have hh := HF.out
              rw [List.take_of_length_le (by have := HN.out; omega)] at hh
              rw [Bool.not_eq_false, List.all_eq_true]
              intro z hz; exact decide_eq_true (hh z hz))] at hall
            unfold chkK at hall
            by_cases k0 : k = 0
            · subst k0
              simp at hall
              subst hall
              go_wp2; go_ret; exact ⟨rfl, ((Kept.refl _).alloc _).alloc _⟩
            · have b0 : (k == 0) = false := by simpa using k0
              have b2 : (k != 0) = true := by simpa using k0
              by_cases k1 : k = 1
              · subst k1
                simp at hall
                try rw [if_pos (by omega)] at hall
                subst hall
                clear b0 b2 k0
                go_wp2; go_ret; exact ⟨rfl, ((Kept.refl _).alloc _).alloc _⟩
              · have b1 : (k == 1) = false := by simpa using k1
                have b3 : (k != 1) = true := by simpa using k1
                by_cases k2 : 1 ≤ k
                · by_cases k3 : k ≤ (n : Int)
                  · simp [k0, k2, k3] at hall
                    subst hall
                    clear k0 k1
                    go_wp2; go_ret; exact ⟨rfl, ((Kept.refl _).alloc _).alloc _⟩
                  · simp [k0, k2, k3] at hall
                    subst hall
                    clear k0 k1
                    go_wp2; go_ret; exact ⟨rfl, ((Kept.refl _).alloc _).alloc _⟩
                · simp [k0, k2] at hall
                  subst hall
                  clear k0 k1
                  go_wp2; go_ret; exact ⟨rfl, ((Kept.refl _).alloc _).alloc _⟩
end Go.Proofs.YteodabnjkikogaaGreat

/-
  Walks: faultlineref08.Valid, Check.
-/
namespace Go.Proofs.YteodabnjkikogaaGreat
open Go.RowKit

set_option maxHeartbeats 1000000 in
theorem rvalidF_any (v : Value) (f : Fm) (w : World) (hv : NodesAt w v f.nodes) (h0 : 0 ≤ f.vars) (h24 : f.vars ≤ 24) (arg : Int) (ht : arg ≤ 9223372036854775807) :
    Calls Tryz.prog 37 #[fmV v f, .int .i64 arg] w fun e w' => e = .returned (.bool (okArg f arg)) ∧ Kept w w' := by
  obtain ⟨a, c, rfl, _, hl, hx⟩ := hv
  obtain ⟨vars, nodes, top⟩ := f
  simp only at hl hx h0 h24
  unfold okArg
  simp only
  clear hx
  obtain ⟨n, hn⟩ : ∃ n, n = nodes.length := ⟨_, rfl⟩
  rw [← hn] at hl ⊢
  clear hn
  by_cases h1 : 0 ≤ arg
  · by_cases h2 : arg < vars
    · rw [decide_eq_true ⟨h0, h1, .inl h2⟩]
      go_enter Tryz.func37, Tryz.ntmps37
      go_wp2
      go_ret
      exact ⟨rfl, (Kept.refl _).alloc _⟩
    · by_cases h3 : arg - vars < n
      · rw [decide_eq_true ⟨h0, h1, .inr h3⟩]
        go_enter Tryz.func37, Tryz.ntmps37
        go_wp2
        go_ret
        exact ⟨rfl, (Kept.refl _).alloc _⟩
      · rw [decide_eq_false (by rintro ⟨_, _, h | h⟩; exact h2 h; exact h3 h)]
        go_enter Tryz.func37, Tryz.ntmps37
        go_wp2
        go_ret
        exact ⟨rfl, (Kept.refl _).alloc _⟩
  · rw [decide_eq_false fun h => h1 h.2.1]
    go_enter Tryz.func37, Tryz.ntmps37
    go_wp2
    go_ret
    exact ⟨rfl, (Kept.refl _).alloc _⟩

set_option maxHeartbeats 4000000 in
theorem rcheck_any (v : Value) (f : Fm) (w : World) (hv : NodesAt w v f.nodes) (ht : f.top ≤ 9223372036854775807) :
    Calls Tryz.prog 11 #[fmV v f] w fun e w' => e = .returned (.int .i64 (chkF f)) ∧ Kept w w' := by
  obtain ⟨r, hr⟩ : ∃ r, r = chkF f := ⟨_, rfl⟩
  rw [← hr]
  have HV := Lib.hid hv
  have HRR := Lib.hid hr
  obtain ⟨a, c, rfl, _, hl, hx⟩ := hv
  obtain ⟨n, hn⟩ : ∃ n, n = f.nodes.length := ⟨_, rfl⟩
  rw [← hn] at hl HV ⊢
  have HN := Lib.hid hn
  obtain ⟨vars, hvars⟩ : ∃ x, x = f.vars := ⟨_, rfl⟩
  obtain ⟨top, htop⟩ : ∃ x, x = f.top := ⟨_, rfl⟩
  rw [← htop] at ht
  have HVA := Lib.hid hvars
  have HTO := Lib.hid htop
  unfold fmV
  rw [← hvars, ← htop]
  clear hx hr hn hvars htop
  by_cases h : vars < 0 ∨ 24 < vars
  · have h9 : r = 3 := by rw [HRR.out, chkF, if_pos (by rw [← HVA.out]; exact h)]
    subst h9
    rcases h with h | h
    all_goals
      go_enter Tryz.func11, Tryz.ntmps11
      go_wp2
      go_ret
      exact ⟨rfl, (Kept.refl _).alloc _⟩
  · have h0 : 0 ≤ vars := by omega
    have h24 : vars ≤ 24 := by omega
    have HH := Lib.hid (show ¬ (f.vars < 0 ∨ 24 < f.vars) by rw [← HVA.out]; exact h)
    clear h
    by_cases hn : 128 < n
    · have h9 : r = 4 := by rw [HRR.out, chkF, if_neg HH.out, if_pos (by rw [← HN.out]; exact hn)]
      subst h9
      go_enter Tryz.func11, Tryz.ntmps11
      go_wp2
      go_ret
      exact ⟨rfl, (Kept.refl _).alloc _⟩
    · have HH2 := Lib.hid (show ¬ 128 < f.nodes.length by rw [← HN.out]; exact hn)
      go_enter Tryz.func11, Tryz.ntmps11
      go_wp2
      go_loopw [3, 4, 20] (fun _ _ i wr => ∃ k : Nat, k ≤ n ∧ i = .int .i64 k ∧ Hid (∀ j (hj : j < f.nodes.length), j < k → chkNd (f.vars + j) f.nodes[j] = 0) ∧ Kept w wr ∧ wr.cell? ⟨w.heap.size, 0, none⟩ = some (.int .i64 vars) ∧ wr.cell? ⟨w.heap.size, 1, none⟩ = some (.slice a n c) ∧ wr.cell? ⟨w.heap.size, 2, none⟩ = some (.int .i64 top)) (fun _ _ i _ => n - (intOf i).toNat)
      case atStart => exact ⟨0, Nat.zero_le _, rfl, Lib.hid (by intro j _ h; omega), (Kept.refl _).alloc _, by simp, by simp, by simp⟩
      case round =>
        obtain ⟨k, hk, rfl, HF, hK, c0, c1, c2⟩ := hrel
        have hload : wr.rangeAt w.heap.size 0 [.int .i64 vars, .slice a n c, .int .i64 top] := by
          intro j v hj
          match j, hj with
          | 0, hj => simp at hj; subst hj; exact c0
          | 1, hj => simp at hj; subst hj; exact c1
          | 2, hj => simp at hj; subst hj; exact c2
        have HLD := Lib.hid hload
        clear hload
        by_cases hlt : k < n
        · have hkx : k < f.nodes.length := by have := HN.out; omega
          have hcall := rnode_any f.vars f.top _ f.nodes k wr (HV.out.kept hK) hkx (by rw [← HVA.out]; exact h0) (by rw [← HVA.out]; exact h24) (by omega)
          rw [← HVA.out, ← HTO.out] at hcall
          obtain ⟨q, hq⟩ : ∃ q, q = chkNd (vars + k) f.nodes[k] := ⟨_, rfl⟩
          rw [← hq] at hcall
          have HQ := Lib.hid hq
          have HCL := Lib.hid hcall
          clear hq hcall
          by_cases hq0 : q = 0
          · subst hq0
            go_wp2_with (first
              | (with_reducible refine wpList_load_mid rfl 24 _ rfl w.heap.size 0 rfl _ _ HLD.out Tryz.underlying24 rfl (by kernel_rfl) ?_)
              | (go_at_call 36; refine HCL.out.mono ?_; rintro e w2 ⟨rfl, hk2⟩))
            go_roundw
            case rel =>
              refine ⟨k + 1, by omega, by go_num, Lib.hid ?_, hK.trans hk2, hk2.cell c0, hk2.cell c1, hk2.cell c2⟩
              intro j hj hjk
              by_cases e : j = k
              · subst e; rw [← HVA.out, ← HQ.out]
              · exact HF.out j hj (by omega)
            case measure => simp [intOf]; omega
          · have hq1 : ((q : Int) == 0) = false := by simp; omega
            have hq2 : ((q : Int) != 0) = true := by simp; omega
            have HQ0 := Lib.hid hq0
            clear hq0
            go_wp2_with (first
              | (with_reducible refine wpList_load_mid rfl 24 _ rfl w.heap.size 0 rfl _ _ HLD.out Tryz.underlying24 rfl (by kernel_rfl) ?_)
              | (go_at_call 36; refine HCL.out.mono ?_; rintro e w2 ⟨rfl, hk2⟩))
            go_ret
            refine ⟨?_, hK.trans hk2⟩
            have e1 := chkFrom_at f.vars f.nodes k hkx (fun j hj => HF.out j (by omega) hj) (by rw [← HVA.out, ← HQ.out]; exact HQ0.out)
            have e2 : r = q := by
              rw [HRR.out, chkF, if_neg HH.out, if_neg HH2.out]
              rw [← HVA.out, ← HQ.out] at e1
              rw [← HVA.out, e1, if_neg HQ0.out]
            rw [e2]; rfl
        · have hall := chkFrom_none f.vars f.nodes (fun j hj => HF.out j hj (by have := HN.out; omega))
          have hrr : r = if okArg f f.top then 0 else 10 := by rw [HRR.out, chkF, if_neg HH.out, if_neg HH2.out, if_pos hall]
          have hcall := rvalidF_any _ f wr (HV.out.kept hK) (by rw [← HVA.out]; exact h0) (by rw [← HVA.out]; exact h24) f.top (by rw [← HTO.out]; exact ht)
          unfold fmV at hcall
          rw [← HTO.out, ← HVA.out] at hcall
          have HCL := Lib.hid hcall
          have HRF := Lib.hid hrr
          clear hcall hrr hall
          cases hok : okArg f top with
          | true =>
            have HOK := Lib.hid hok
            clear hok
            go_wp2_with (first
              | (with_reducible refine wpList_load_mid rfl 24 _ rfl w.heap.size 0 rfl _ _ HLD.out Tryz.underlying24 rfl (by kernel_rfl) ?_)
              | (go_at_call 37; refine HCL.out.mono ?_; rintro e w2 ⟨rfl, hk2⟩; rw [HOK.out]))
            go_ret
            exact ⟨by rw [HRF.out, ← HTO.out, HOK.out]; rfl, hK.trans hk2⟩
          | false =>
            have HOK := Lib.hid hok
            clear hok
            go_wp2_with (first
              | (with_reducible refine wpList_load_mid rfl 24 _ rfl w.heap.size 0 rfl _ _ HLD.out Tryz.underlying24 rfl (by kernel_rfl) ?_)
              | (go_at_call 37; refine HCL.out.mono ?_; rintro e w2 ⟨rfl, hk2⟩; rw [HOK.out]))
            go_ret
            exact ⟨by rw [HRF.out, ← HTO.out, HOK.out]; rfl, hK.trans hk2⟩
end Go.Proofs.YteodabnjkikogaaGreat

/-
  Walks: faultlineref06.Plus, Product.
-/
namespace Go.Proofs.YteodabnjkikogaaGreat
open Go.RowKit

/-- What a reference returns: a list and 0, or no list and ErrLarge. -/
def RRes (w' : World) (e : Ending) (r : Option (List Nat)) : Prop :=
  match r with
  | some l => ∃ v, e = .returned (.tuple #[v, .int .i64 0]) ∧ OwnSets w' 0 v l
  | none => e = .returned (.tuple #[.slice none 0 0, .int .i64 4])
end Go.Proofs.YteodabnjkikogaaGreat
