import Derived.WalkKit
import Derived.WalkSpells
import Derived.WalkLawsBesides
import Derived.Deep.QuietTactic
import Derived.BigQuiet
import Derived.Lib.Hide
import Derived.Shelf.Abstract
import Derived.Deep.RegionWith
import Derived.Laws.AppendOwnNone
import Derived.Lib.AppendZerosOnto
import Derived.Lib.SliceRun
import Derived.Lib.SlicesCompact
import Derived.Shelf.SlSortCmp.NoneTotal
import Derived.Maps.OwnOps
import Derived.Maps.OwnSet
import Derived.Maps.Views
import Derived.Deep.MidRow
import Derived.Deep.RegionHeld3
import Derived.Deep.AppendLies
import Derived.Deep.RegionLaw
import Derived.IntWalk
import Derived.StillTailTactics
import Derived.RegionTactic
import Derived.BigRegion
import Derived.ChangeAlike
import Derived.Sort.LotD2
import Derived.Sort.LotA
import Derived.Shelf.SlSortCmp.PdqK
import Derived.Deep.DeepCutAuto
import Derived.Lib.ItoaNum
import Derived.Deep.LoopGhost
import Derived.ProofKit
import Derived.OpenShut
import Derived.SizedLaws
import Derived.Lib.SmallJoins
import Derived.Deep.Slices
import Derived.Deep.Fields
import Derived.Deep.Strs
import Derived.Carry
import Derived.Lib.BitFns
import Derived.Deep.CutBlock
import Derived.Test.YteodabnjkikogaaGreatQ7
import Derived.Test.YteodabnjkikogaaGreatQ3
import Derived.Test.YteodabnjkikogaaGreatQ2
import Derived.Test.YteodabnjkikogaaGreatQ4
import Derived.Test.YteodabnjkikogaaGreatProg
/-
  Walks: the rows of truncate: flip, node, has at masks; the cutter's add.
-/
namespace Go.Proofs.YteodabnjkikogaaGreat
open Go.RowKit

theorem tflip_any {c : Nat} (hc : RowLt 152 c) (i : Nat) (hi : i < 128) (w : World) : Calls Tryz.prog 125 #[rowV c, .int .i64 i, .bool true] w fun e w' => e = .returned (rowV (c ||| 2 ^ (24 + i))) ∧ Kept w w' := by
  unfold rowV
  by_cases h6 : i < 64
  · obtain ⟨e1, e2, e3⟩ := lo_with (c := c) (j := i) h6
    rw [e1, e2, e3]
    exact tflip_lo_on (evW c) (loW c) (hiW c) i (loW_lt c) h6 w _ rfl
  · obtain ⟨j, rfl⟩ : ∃ j, i = 64 + j := ⟨i - 64, by omega⟩
    obtain ⟨e1, e2, e3⟩ := hi_with (c := c) (j := j)
    rw [e1, e2, e3]
    exact tflip_hi_on (evW c) (loW c) (hiW c) j (hiW_lt hc) (by omega) w _ rfl
theorem tunflip_any {c : Nat} (hc : RowLt 152 c) (i : Nat) (hi : i < 128) (w : World) : Calls Tryz.prog 125 #[rowV c, .int .i64 i, .bool false] w fun e w' => e = .returned (rowV (sdiff c (2 ^ (24 + i)))) ∧ Kept w w' := by
  unfold rowV
  by_cases h6 : i < 64
  · obtain ⟨e1, e2, e3⟩ := lo_without (c := c) (j := i) h6
    rw [e1, e2, e3]
    exact tflip_lo_off (evW c) (loW c) (hiW c) i (loW_lt c) h6 w _ rfl
  · obtain ⟨j, rfl⟩ : ∃ j, i = 64 + j := ⟨i - 64, by omega⟩
    obtain ⟨e1, e2, e3⟩ := hi_without (c := c) (j := j)
    rw [e1, e2, e3]
    exact tflip_hi_off (evW c) (loW c) (hiW c) j (hiW_lt hc) (by omega) w _ rfl
theorem or_self_iff (c m : Nat) : (c ||| 2 ^ m = c) ↔ c.testBit m = true := by
  constructor
  · intro h
    have := bit_or_pow c m m
    rw [h] at this
    simpa using this
  · intro h
    refine Nat.eq_of_testBit_eq fun i => ?_
    rw [bit_or_pow]
    by_cases e : m = i
    · subst e; simp [h]
    · simp [e]
theorem row_eq (a b : Nat) : (evW a = evW b ∧ loW a = loW b ∧ hiW a = hiW b) ↔ a = b := by
  constructor
  · rintro ⟨h1, h2, h3⟩
    rw [row_join a, row_join b, h1, h2, h3]
  · intro h; subst h; exact ⟨rfl, rfl, rfl⟩
set_option maxRecDepth 100000 in
theorem tnode_any {c : Nat} (hc : RowLt 152 c) (w : World) : Calls Tryz.prog 71 #[rowV c] w fun e w' => (∃ r : Int, e = .returned (.int .i64 r) ∧ TopIs c r ∧ -1 ≤ r ∧ r ≤ 1000) ∧ Kept w w' := by
  have hlo := loW_lt c
  have hhi := hiW_lt hc
  have HT1 : Hid (∀ m, (hiW c).testBit m = true → (∀ j, (hiW c).testBit j = true → j ≤ m) → TopIs c ((64 + m : Nat) : Int)) := Lib.hid fun m h1 h2 => topIs_hi h1 h2
  have HT2 : Hid (∀ m, hiW c = 0 → (loW c).testBit m = true → (∀ j, (loW c).testBit j = true → j ≤ m) → TopIs c (m : Int)) := Lib.hid fun m h0 h1 h2 => topIs_lo h0 h1 h2
  have HT3 : Hid (hiW c = 0 → loW c = 0 → TopIs c (-1)) := Lib.hid fun h0 h1 => topIs_none h0 h1
  have HLEN : Hid (∀ (x : Nat) (W : World), x < 18446744073709551616 → Calls Tryz.prog 132 #[.int .u64 (x : Nat)] W fun e w' => e = .returned (.int .i64 (Lib.bitLen x)) ∧ W = w') := Lib.hid fun x W h => (Tryz.bits_Len64 (x : Int) W (by omega) (by omega)).mono fun _ _ h => ⟨by rw [h.1]; simp, h.2.symm⟩
  unfold rowV
  generalize evW c = ev at *
  generalize hiW c = hi at hhi HT1 HT2 HT3 ⊢
  generalize loW c = lo at hlo HT1 HT2 HT3 ⊢
  by_cases hhi0 : hi = 0
  · have b1 : ((hi : Int) != 0) = false := by simp [hhi0]
    by_cases hlo0 : lo = 0
    · have HF := Lib.hid (HT3.out hhi0 hlo0)
      have HC := Lib.hid (fun W => HLEN.out lo W hlo)
      have h0 : Lib.bitLen lo = 0 := by rw [hlo0]; rfl
      rw [h0] at HC
      clear hhi0 hlo0 h0
      go_enter Tryz.func71, Tryz.ntmps71
      go_wp2_with (go_at_call 132; refine (HC.out _).mono ?_; rintro e w2 ⟨rfl, rfl⟩)
      go_ret
      exact ⟨⟨_, rfl, HF.out, by omega, by omega⟩, (Kept.refl _).alloc _⟩
    · obtain ⟨m, hm1, hm2, hm3, hm4⟩ := bitLen_top hlo hlo0
      have HC := Lib.hid (fun W => HLEN.out lo W hlo)
      rw [hm1] at HC
      have HF := Lib.hid (HT2.out m hhi0 hm3 hm4)
      obtain ⟨m1, hm⟩ : ∃ x, x = m + 1 := ⟨_, rfl⟩
      rw [← hm] at HC
      have q1 : (m1 : Int) - 1 = (m : Int) := by omega
      have hm9 : m1 ≤ 64 := by omega
      clear hhi0 hlo0 hm1 hm3 hm4 hm
      go_enter Tryz.func71, Tryz.ntmps71
      go_wp2_with (go_at_call 132; refine (HC.out _).mono ?_; rintro e w2 ⟨rfl, rfl⟩)
      go_ret
      exact ⟨⟨_, rfl, HF.out, by omega, by omega⟩, (Kept.refl _).alloc _⟩
  · have b1 : ((hi : Int) != 0) = true := by simp; omega
    obtain ⟨m, hm1, hm2, hm3, hm4⟩ := bitLen_top hhi hhi0
    have HC := Lib.hid (fun W => HLEN.out hi W hhi)
    rw [hm1] at HC
    obtain ⟨z, hz⟩ : ∃ z, z = 64 + m := ⟨_, rfl⟩
    have HF : Hid (TopIs c (z : Int)) := Lib.hid (by rw [hz]; exact HT1.out m hm3 hm4)
    obtain ⟨m1, hm⟩ : ∃ x, x = m + 1 := ⟨_, rfl⟩
    rw [← hm] at HC
    have q1 : (63 : Int) + (m1 : Int) = (z : Int) := by omega
    have hz9 : z ≤ 1000 := by omega
    have hm9 : m1 ≤ 64 := by omega
    clear hhi0 hm1 hm3 hm4 hm hz
    go_enter Tryz.func71, Tryz.ntmps71
    go_wp2_with (go_at_call 132; refine (HC.out _).mono ?_; rintro e w2 ⟨rfl, rfl⟩)
    go_ret
    exact ⟨⟨_, rfl, HF.out, by omega, by omega⟩, (Kept.refl _).alloc _⟩
set_option maxRecDepth 100000 in
set_option maxHeartbeats 4000000 in
theorem thas_any {c : Nat} (hc : RowLt 152 c) (i : Nat) (hi : i < 128) (w : World) : Calls Tryz.prog 72 #[rowV c, .int .i64 i] w fun e w' => e = .returned (.bool (c.testBit (24 + i))) ∧ Kept w w' := by
  have HFL := Lib.hid (fun W => tflip_any hc i hi W)
  have hb : c.testBit (24 + i) = (decide (evW (c ||| 2 ^ (24 + i)) = evW c) && (decide (loW (c ||| 2 ^ (24 + i)) = loW c) && decide (hiW (c ||| 2 ^ (24 + i)) = hiW c))) := by
    rw [Bool.eq_iff_iff, ← or_self_iff, ← row_eq]
    simp
  rw [hb]
  clear hb hc
  unfold rowV at *
  generalize c ||| 2 ^ (24 + i) = d at *
  generalize evW c = x0 at *
  generalize loW c = x1 at *
  generalize hiW c = x2 at *
  generalize evW d = y0 at *
  generalize loW d = y1 at *
  generalize hiW d = y2 at *
  by_cases e0 : y0 = x0
  · subst e0
    by_cases e1 : y1 = x1
    · subst e1
      by_cases e2 : y2 = x2
      · subst e2
        rw [decide_eq_true rfl, decide_eq_true rfl, decide_eq_true rfl]
        go_enter Tryz.func72, Tryz.ntmps72
        go_wp2
        have c0 := ((Kept.refl (w.alloc (.cells #[.int .i64 y0, .int .u64 y1, .int .u64 y2] 103))).drew).cell (p := ⟨w.heap.size, 0, none⟩) (v := .int .i64 y0) (by simp)
        have c1 := ((Kept.refl (w.alloc (.cells #[.int .i64 y0, .int .u64 y1, .int .u64 y2] 103))).drew).cell (p := ⟨w.heap.size, 1, none⟩) (v := .int .u64 y1) (by simp)
        have c2 := ((Kept.refl (w.alloc (.cells #[.int .i64 y0, .int .u64 y1, .int .u64 y2] 103))).drew).cell (p := ⟨w.heap.size, 2, none⟩) (v := .int .u64 y2) (by simp)
        go_region_with (go_at_call 125; (with_reducible refine (HFL.out _).mono ?_); rintro e w3 ⟨rfl, hk3⟩; have t0 := hk3.cell c0; have t1 := hk3.cell c1; have t2 := hk3.cell c2)
        all_goals go_wp2
        all_goals go_ret
        all_goals exact ⟨rfl, ((((Kept.refl _).alloc _).drew)).trans hk3⟩
      · have b2 : ((y2 : Int) == (x2 : Int)) = false := by simp; omega
        rw [decide_eq_true rfl, decide_eq_true rfl, decide_eq_false e2]
        clear e2
        go_enter Tryz.func72, Tryz.ntmps72
        go_wp2
        have c0 := ((Kept.refl (w.alloc (.cells #[.int .i64 y0, .int .u64 y1, .int .u64 x2] 103))).drew).cell (p := ⟨w.heap.size, 0, none⟩) (v := .int .i64 y0) (by simp)
        have c1 := ((Kept.refl (w.alloc (.cells #[.int .i64 y0, .int .u64 y1, .int .u64 x2] 103))).drew).cell (p := ⟨w.heap.size, 1, none⟩) (v := .int .u64 y1) (by simp)
        have c2 := ((Kept.refl (w.alloc (.cells #[.int .i64 y0, .int .u64 y1, .int .u64 x2] 103))).drew).cell (p := ⟨w.heap.size, 2, none⟩) (v := .int .u64 x2) (by simp)
        go_region_with (go_at_call 125; (with_reducible refine (HFL.out _).mono ?_); rintro e w3 ⟨rfl, hk3⟩; have t0 := hk3.cell c0; have t1 := hk3.cell c1; have t2 := hk3.cell c2)
        all_goals go_wp2
        all_goals go_ret
        all_goals exact ⟨rfl, ((((Kept.refl _).alloc _).drew)).trans hk3⟩
    · have b1 : ((y1 : Int) == (x1 : Int)) = false := by simp; omega
      rw [decide_eq_true rfl, decide_eq_false e1]
      clear e1
      go_enter Tryz.func72, Tryz.ntmps72
      go_wp2
      have c0 := ((Kept.refl (w.alloc (.cells #[.int .i64 y0, .int .u64 x1, .int .u64 x2] 103))).drew).cell (p := ⟨w.heap.size, 0, none⟩) (v := .int .i64 y0) (by simp)
      have c1 := ((Kept.refl (w.alloc (.cells #[.int .i64 y0, .int .u64 x1, .int .u64 x2] 103))).drew).cell (p := ⟨w.heap.size, 1, none⟩) (v := .int .u64 x1) (by simp)
      have c2 := ((Kept.refl (w.alloc (.cells #[.int .i64 y0, .int .u64 x1, .int .u64 x2] 103))).drew).cell (p := ⟨w.heap.size, 2, none⟩) (v := .int .u64 x2) (by simp)
      go_region_with (go_at_call 125; (with_reducible refine (HFL.out _).mono ?_); rintro e w3 ⟨rfl, hk3⟩; have t0 := hk3.cell c0; have t1 := hk3.cell c1; have t2 := hk3.cell c2)
      all_goals go_wp2
      all_goals go_ret
      all_goals exact ⟨rfl, ((((Kept.refl _).alloc _).drew)).trans hk3⟩
  · have b0 : ((y0 : Int) == (x0 : Int)) = false := by simp; omega
    rw [decide_eq_false e0]
    clear e0
    go_enter Tryz.func72, Tryz.ntmps72
    go_wp2
    have c0 := ((Kept.refl (w.alloc (.cells #[.int .i64 x0, .int .u64 x1, .int .u64 x2] 103))).drew).cell (p := ⟨w.heap.size, 0, none⟩) (v := .int .i64 x0) (by simp)
    have c1 := ((Kept.refl (w.alloc (.cells #[.int .i64 x0, .int .u64 x1, .int .u64 x2] 103))).drew).cell (p := ⟨w.heap.size, 1, none⟩) (v := .int .u64 x1) (by simp)
    have c2 := ((Kept.refl (w.alloc (.cells #[.int .i64 x0, .int .u64 x1, .int .u64 x2] 103))).drew).cell (p := ⟨w.heap.size, 2, none⟩) (v := .int .u64 x2) (by simp)
    go_region_with (go_at_call 125; (with_reducible refine (HFL.out _).mono ?_); rintro e w3 ⟨rfl, hk3⟩; have t0 := hk3.cell c0; have t1 := hk3.cell c1; have t2 := hk3.cell c2)
    all_goals go_wp2
    all_goals go_ret
    all_goals exact ⟨rfl, ((((Kept.refl _).alloc _).drew)).trans hk3⟩
end Go.Proofs.YteodabnjkikogaaGreat

/-
  Walks: the cutter of truncate: add, emit.
-/
namespace Go.Proofs.YteodabnjkikogaaGreat
open Go.RowKit

theorem info_trow : (Tryz.prog.info? 103).map (fun i => (i.zero, i.size, i.bytes)) = some (some (.agg #[.int .i64 0, .int .u64 0, .int .u64 0]), 3, 24) := by kernel_rfl
set_option maxRecDepth 100000 in
theorem cadd_ev (gl e l h a V : Nat) (w : World) (hc : w.cell? ⟨gl, 0, none⟩ = some (.int .i64 V)) (he : e < 16777216) (hV : V ≤ 24) (ha : a < V) :
    Calls Tryz.prog 69 #[.pointer (some ⟨gl, 0, none⟩), .agg #[.int .i64 e, .int .u64 l, .int .u64 h], .int .i64 a] w fun e' w' => e' = .returned (.agg #[.int .i64 (e ||| 2 ^ a : Nat), .int .u64 l, .int .u64 h]) ∧ Kept w w' := by
  have hgl : gl < w.heap.size := World.block_lt_of_cell? w _ hc
  have h1 : (a : Int) < (V : Int) := by omega
  have h2 : ¬ (a : Int) < 0 := by omega
  have p1 := pow_i64 a (by omega)
  have hp := pow_lt24 (show a < 24 by omega)
  obtain ⟨z, hz⟩ : ∃ z, z = 2 ^ a := ⟨_, rfl⟩
  have p3 : IntKind.i64.wrap ((2 : Int) ^ a) = (z : Int) := by
    rw [show (2 : Int) ^ a = (z : Int) by rw [hz]; simp, IntKind.wrap_i64]; omega
  rw [← hz] at p1 hp ⊢
  have p2 := or_i64 e z (by omega) (by omega)
  clear hz
  obtain ⟨y, hy⟩ : ∃ y, y = e ||| z := ⟨_, rfl⟩
  rw [← hy] at p2 ⊢
  clear hy
  have c0 := (((Kept.refl w).alloc (.cells #[.int .i64 e, .int .u64 l, .int .u64 h] 103)).alloc (.cells #[.int .i64 0, .int .u64 0, .int .u64 0] 103)).cell hc
  go_enter Tryz.func69, Tryz.ntmps69
  go_wp2
  go_region
  all_goals go_wp2
  all_goals exact bodyPost_ret (v := .agg #[.int .i64 y, .int .u64 l, .int .u64 h]) (by simp [results, Tryz.results69, go_sem]) rfl ⟨rfl, by repeat (first | exact Kept.refl _ | apply Kept.drew | apply Kept.alloc | refine Kept.store ?_ (by simp) _ _)⟩
set_option maxRecDepth 100000 in
set_option maxHeartbeats 4000000 in
theorem cadd_node (gl c j V : Nat) (w : World) (hcl : w.cell? ⟨gl, 0, none⟩ = some (.int .i64 V)) (hc : RowLt 152 c) (hV : V ≤ 24) (hj : j < 128) :
    Calls Tryz.prog 69 #[.pointer (some ⟨gl, 0, none⟩), rowV c, .int .i64 (V + j : Nat)] w fun e' w' => e' = .returned (rowV (c ||| 2 ^ (24 + j))) ∧ Kept w w' := by
  have hgl : gl < w.heap.size := World.block_lt_of_cell? w _ hcl
  have HFL := Lib.hid (fun W => tflip_any hc j hj W)
  obtain ⟨a, ha⟩ : ∃ a, a = V + j := ⟨_, rfl⟩
  rw [← ha]
  have h1 : ¬ (a : Int) < (V : Int) := by omega
  have h3 : IntKind.i64.wrap ((a : Int) - (V : Int)) = (j : Int) := by rw [IntKind.wrap_i64]; omega
  have h4 : (a : Int) - (V : Int) = (j : Int) := by omega
  have h5 : IntKind.i64.wrap (j : Int) = (j : Int) := by rw [IntKind.wrap_i64]; omega
  clear ha hc
  unfold rowV at *
  generalize c ||| 2 ^ (24 + j) = d at *
  generalize evW c = x0 at *
  generalize loW c = x1 at *
  generalize hiW c = x2 at *
  generalize evW d = y0 at *
  generalize loW d = y1 at *
  generalize hiW d = y2 at *
  have c0 := (((Kept.refl w).alloc (.cells #[.int .i64 x0, .int .u64 x1, .int .u64 x2] 103)).alloc (.cells #[.int .i64 0, .int .u64 0, .int .u64 0] 103)).cell hcl
  obtain ⟨L, hL⟩ : ∃ L, L = (w.alloc (.cells #[.int .i64 x0, .int .u64 x1, .int .u64 x2] 103)).alloc (.cells #[.int .i64 0, .int .u64 0, .int .u64 0] 103) := ⟨_, rfl⟩
  have HL := Lib.hid hL
  have q0 : L.cell? ⟨w.heap.size, 0, none⟩ = some (.int .i64 x0) := by rw [hL]; exact ((Kept.refl _).alloc _).cell (by simp)
  have q1 : L.cell? ⟨w.heap.size, 1, none⟩ = some (.int .u64 x1) := by rw [hL]; exact ((Kept.refl _).alloc _).cell (by simp)
  have q2 : L.cell? ⟨w.heap.size, 2, none⟩ = some (.int .u64 x2) := by rw [hL]; exact ((Kept.refl _).alloc _).cell (by simp)
  have HR : Hid (RowAt L (w.heap.size + 1) 103 [.int .i64 0, .int .u64 0, .int .u64 0]) := Lib.hid (by
    rw [hL]
    have := RowAt.made (w.alloc (.cells #[.int .i64 x0, .int .u64 x1, .int .u64 x2] 103)) #[.int .i64 0, .int .u64 0, .int .u64 0] 103
    simpa using this)
  have HK : Hid (Kept w L) := Lib.hid (by rw [hL]; exact ((Kept.refl _).alloc _).alloc _)
  rw [← hL] at c0
  clear hL
  go_enter Tryz.func69, Tryz.ntmps69
  go_upto_region 4 with fail
  rw [← HL.out]
  have x0' := ((Kept.refl L).drew).cell q0
  have x1' := ((Kept.refl L).drew).cell q1
  have x2' := ((Kept.refl L).drew).cell q2
  have xc' := ((Kept.refl L).drew).cell c0
  go_region_with (go_at_call 125; (with_reducible refine (HFL.out _).mono ?_); rintro e w3 ⟨rfl, hk3⟩; have hr3 := HR.out.kept ((Kept.refl L).drew.trans hk3); have r0 := hr3.cell (i := 0) (by simp); have r1 := hr3.cell (i := 1) (by simp); have r2 := hr3.cell (i := 2) (by simp); have f0 := hr3.free 0; have f1 := hr3.free 1; have f2 := hr3.free 2; simp only [List.getElem_cons_succ, List.getElem_cons_zero] at r0 r1 r2; have HR3 := Lib.hid hr3; have HK3 := Lib.hid ((Kept.refl L).drew.trans hk3); clear hr3 hk3)
  all_goals go_wp2
  all_goals
    have hr9 := ((HR3.out.store 0 (.int .i64 y0)).store 1 (.int .u64 y1)).store 2 (.int .u64 y2)
    have s0 := hr9.cell (i := 0) (by simp)
    have s1 := hr9.cell (i := 1) (by simp)
    have s2 := hr9.cell (i := 2) (by simp)
    simp only [List.set_cons_succ, List.set_cons_zero, List.getElem_cons_succ, List.getElem_cons_zero] at s0 s1 s2
    exact bodyPost_ret (v := .agg #[.int .i64 y0, .int .u64 y1, .int .u64 y2]) (by simp [results, Tryz.results69, go_sem, s0, s1, s2]) rfl ⟨rfl, (((HK.out.trans HK3.out).store (by omega) 0 _).store (by omega) 1 _).store (by omega) 2 _⟩
theorem cadd_any (gl c V : Nat) (a : Int) (w : World) (hcl : w.cell? ⟨gl, 0, none⟩ = some (.int .i64 V)) (hc : RowLt 152 c) (hV : V ≤ 24) (ha : 0 ≤ a ∧ a < (V : Int) + 128) :
    Calls Tryz.prog 69 #[.pointer (some ⟨gl, 0, none⟩), rowV c, .int .i64 a] w fun e' w' => e' = .returned (rowV (withC V c a)) ∧ Kept w w' := by
  unfold withC cond
  by_cases h : a < V
  · rw [if_pos h]
    have := cadd_ev gl (evW c) (loW c) (hiW c) a.toNat V w hcl (evW_lt c) hV (by omega)
    obtain ⟨e1, e2, e3⟩ := ev_with (c := c) (a := a.toNat) (by omega)
    rw [show ((a.toNat : Nat) : Int) = a by omega] at this
    unfold rowV
    rw [e1, e2, e3]
    exact this
  · rw [if_neg h]
    have := cadd_node gl c (a - V).toNat V w hcl hc hV (by omega)
    rw [show ((V + (a - V).toNat : Nat) : Int) = a by omega] at this
    exact this
end Go.Proofs.YteodabnjkikogaaGreat

/-
  Walks: the cutter of truncate: emit. (Turned by conv5.py.)
-/
namespace Go.Proofs.YteodabnjkikogaaGreat.Tr
open Go.RowKit
variable {y0 y1 y2 y3 y4 y6 : Value}

/-- The cutter: its cells, the rows made. -/
def CutAt (y0 y1 y2 y3 y4 y6 : Value) (w : World) (gl B : Nat) (v : Value) (L : List Nat) : Prop := RowAt w gl 101 [y0, y1, y2, y3, y4, v, y6] ∧ OwnRws w B v L
theorem OwnRws.own_ge {w : World} {B : Nat} {v : Value} {L : List Nat} (h : OwnRws w B v L) {g : Nat} (hg : v.ownBlock = some g) : B ≤ g ∧ g < w.heap.size := h.1.lt g hg
theorem frm_below {gl B : Nat} {v v' : Value} {w w' : World} {L : List Nat} (h : Frm gl v v' w w') (hv : OwnRws w B v L) (hB : B ≤ gl) (hl : B ≤ w.heap.size) : Below B w w' :=
  ⟨h.os, h.tape, h.output, h.size, fun k hk => h.block k (by omega) (by omega) fun e => by have := (hv.own_ge e.symm).1; omega⟩
theorem list_apart {w : World} {gl B : Nat} {v : Value} {L : List Nat} {cs : List Value} (h : OwnRws w B v L) (hx : RowAt w gl 101 cs) : some gl ≠ v.ownBlock := by
  obtain ⟨⟨_, h2⟩, _⟩ := h
  obtain ⟨cur, hx1, _⟩ := hx
  intro e
  rcases h2 with ⟨rfl, _⟩ | ⟨g, cap, cur2, rfl, _, h7, _⟩
  · cases e
  · have : gl = g := by simpa [Value.ownBlock] using e
    subst this
    rw [hx1] at h7
    injection h7 with h7
    injection h7 with _ h8 _
    exact absurd h8 (by decide)
theorem OwnRws.store_other {w : World} {B g : Nat} {v : Value} {L : List Nat} (h : OwnRws w B v L) (hg : some g ≠ v.ownBlock) (i : Nat) (u : Value) : OwnRws (w.setCell ⟨g, i, none⟩ u) B v L := by
  obtain ⟨⟨h1, h2⟩, h3⟩ := h
  refine ⟨⟨h1, h2.imp id ?_⟩, h3⟩
  rintro ⟨b, cap, cur, rfl, h5, h6, h7⟩
  refine ⟨b, cap, cur, rfl, h5, ?_, h7⟩
  have hne : b ≠ g := fun e => hg (by simp [Value.ownBlock, e])
  exact (Below.heap_setCell w ⟨g, i, none⟩ u b hne).trans h6
theorem emit_step {W w5 : World} {gl B n cap gg c : Nat} {L : List Nat} {v : Value} {C O : Obj} (hr : RowAt W gl 101 [y0, y1, y2, y3, y4, v, y6]) (hv : OwnRws W B v L) (hB : B ≤ gl) (hc : RowLt 152 c) (hl : L.length ≤ 4097) (hn : n = L.length)
    (hown : w5.ownsRow B 103 3 (.slice (some ⟨gg, 0, none⟩) (n + 1) cap) (n + 1) (L.flatMap rcells ++ rcells c)) (hg : ((W.alloc C).alloc O).drew.grownBy w5 v.ownBlock) (hat : v.ownBlock = some gg ∨ gg = W.heap.size + 1 + 1) :
    CutAt y0 y1 y2 y3 y4 y6 (w5.setCell ⟨gl, 5, none⟩ (.slice (some ⟨gg, 0, none⟩) (n + 1) cap)) gl B (.slice (some ⟨gg, 0, none⟩) (n + 1) cap) (L ++ [c]) ∧ Frm gl v (.slice (some ⟨gg, 0, none⟩) (n + 1) cap) W (w5.setCell ⟨gl, 5, none⟩ (.slice (some ⟨gg, 0, none⟩) (n + 1) cap)) := by
  have hgl := hr.lt
  have k1 : Kept W ((W.alloc C).alloc O).drew := (((Kept.refl W).alloc C).alloc O).drew
  have hb : w5.heap[gl]? = W.heap[gl]? := (hg.block gl (by simp; omega) (list_apart hv hr)).trans (k1.block gl hgl)
  have hr5 := hr.same hb
  have hv5 : OwnRws w5 B (.slice (some ⟨gg, 0, none⟩) (n + 1) cap) (L ++ [c]) := by
    refine ⟨by rw [List.flatMap_append, List.flatMap_cons, List.flatMap_nil, List.append_nil, List.length_append, List.length_singleton, ← hn]; exact hown, by simp; omega, fun x hx => ?_⟩
    rcases List.mem_append.1 hx with hx | hx
    · exact hv.2.2 x hx
    · simp at hx; subst hx; exact hc
  have hne5 := list_apart hv5 hr5
  refine ⟨⟨?_, hv5.store_other hne5 5 _⟩, ?_⟩
  · have := hr5.store 5 (.slice (some ⟨gg, 0, none⟩) (n + 1) cap)
    simpa using this
  · have h2 : Below B ((W.alloc C).alloc O).drew w5 := grown_below hg (hv.kept k1).1 (by simp; omega)
    have h3 : Below B W (w5.setCell ⟨gl, 5, none⟩ (.slice (some ⟨gg, 0, none⟩) (n + 1) cap)) := Below.setCell ((k1.mono (by omega)).trans h2) hB _
    refine ⟨h3.os, h3.tape, h3.output, h3.size, fun k hk e1 e2 => ?_, ?_⟩
    · exact (Below.heap_setCell w5 ⟨gl, 5, none⟩ _ k e1).trans ((hg.block k (by simp; omega) e2).trans (k1.block k hk))
    · rcases hat with h | h
      · exact .inl h.symm
      · refine .inr fun g hg' => ?_
        have : gg = g := by simpa [Value.ownBlock] using hg'
        omega
set_option maxRecDepth 100000 in
set_option maxHeartbeats 4000000 in
theorem emit_any (gl B c : Nat) (v : Value) (L : List Nat) (W : World) (hL : CutAt y0 y1 y2 y3 y4 y6 W gl B v L) (hc : RowLt 152 c) (hl : L.length ≤ 4097) (hB : B ≤ gl) :
    Calls Tryz.prog 74 #[.pointer (some ⟨gl, 0, none⟩), rowV c] W fun e w' => e = .returned (.tuple #[]) ∧ ∃ v', CutAt y0 y1 y2 y3 y4 y6 w' gl B v' (addK L c) ∧ Frm gl v v' W w' := by
  obtain ⟨hr, hv⟩ := hL
  have hgl := hr.lt
  have c0 := hr.cell (i := 5) (by simp)
  have f0 := hr.free 5
  simp only [List.getElem_cons_succ, List.getElem_cons_zero] at c0
  have hne := list_apart hv hr
  obtain ⟨a, cp, hv2⟩ := hv.at.shape
  obtain ⟨n, hn⟩ : ∃ n, n = L.length := ⟨_, rfl⟩
  unfold addK
  rw [← hn] at hv2 hl ⊢
  subst hv2
  have HR := Lib.hid hr
  have HV := Lib.hid hv
  have HNE := Lib.hid hne
  have HN := Lib.hid hn
  unfold rowV
  have HC : Hid (RowLt 152 c) := hc
  have HCC : Hid (rcells c = [.int .i64 (evW c), .int .u64 (loW c), .int .u64 (hiW c)]) := rfl
  generalize evW c = x0 at *
  generalize loW c = x1 at *
  generalize hiW c = x2 at *
  clear hr hv hne hn hc
  by_cases h : n ≤ 4096
  · rw [if_pos h]
    have h' : (n : Int) ≤ 4096 := by omega
    obtain ⟨i0, hi0, hz0, hz1, hz2⟩ := info_parts info_trow
    have I0 := Lib.hid hi0
    have I1 := Lib.hid hz0
    have I2 := Lib.hid hz1
    have I3 := Lib.hid hz2
    clear hi0 hz0 hz1 hz2 h
    have HO2 : Hid (∀ C O, (((W.alloc C).alloc O).drew).ownsRow B 103 3 (.slice a n cp) n (L.flatMap rcells)) := Lib.hid fun C O => by
      have h := (HV.out.kept ((((Kept.refl W).alloc C).alloc O).drew)).1
      rw [← HN.out] at h; exact h
    have cA : ∀ C, (W.alloc C).drew.cell? ⟨gl, 5, none⟩ = some (.slice a n cp) := fun C => (((Kept.refl W).alloc C).drew).cell c0
    have cB : ∀ C O, ((W.alloc C).alloc O).drew.cell? ⟨gl, 5, none⟩ = some (.slice a n cp) := fun C O => ((((Kept.refl W).alloc C).alloc O).drew).cell c0
    go_enter Tryz.func74, Tryz.ntmps74
    go_wp2
    go_region_law ((refine step_append_lies _ (by rfl) _ _ _ (by rfl) B 103 i0 _ 3 24 Tryz.underlying99 I0.out I1.out I2.out I3.out rfl (by omega) (.slice a n cp) n _ (by rfl) (HO2.out _ _) ⟨W.heap.size + 1, 0, none⟩ 1 1 [.int .i64 x0, .int .u64 x1, .int .u64 x2] (by rfl) (by rfl) (World.news_of_block (cs := #[.int .i64 x0, .int .u64 x1, .int .u64 x2]) (t := 103) (fr := (0, 0)) (heap_new2d W _ _)) (by simp [Value.oneCell']) (by omega) (by unfold maxLen; omega) (by omega) (by simp; omega) (W.heap.size + 1 + 1) (by simp) ?_; intro gg cap w5 hown5 hgrow hat hlt5; have st5 := hgrow.cell (a := ⟨gl, 5, none⟩) (v := .slice a n cp) (cB _ _) HNE.out; have sf5 := (World.frozen?_of_block (a := ⟨gl, 5, none⟩) (hgrow.block gl (by simp; omega) HNE.out)).trans ((Below.frozen ((((Kept.refl W).alloc _).alloc _).drew) (p := ⟨gl, 5, none⟩) (by simp; omega)).trans f0)))
    all_goals go_wp2
    all_goals
     have hs := emit_step HR.out HV.out hB HC.out (by have := HN.out; omega) HN.out (c := c) (by rw [HCC.out]; exact hown5) hgrow hat
     go_end0
     exact ⟨rfl, _, hs⟩
  · rw [if_neg h]
    have h' : ¬ (n : Int) ≤ 4096 := by omega
    go_enter Tryz.func74, Tryz.ntmps74
    go_wp2
    go_end0
    exact ⟨rfl, _, ⟨HR.out.kept ((Kept.refl _).alloc _), HV.out.kept ((Kept.refl _).alloc _)⟩, Frm.of_kept ((Kept.refl _).alloc _)⟩
end Go.Proofs.YteodabnjkikogaaGreat.Tr

/-
  Plain: the top-down search with a limit: rows beyond it go to the frontier.
-/
namespace Go.Proofs.YteodabnjkikogaaGreat

/-- Rows beyond the limit are taken out; the least of the others stay. -/
def settleR (P : Nat → Bool) (M : List Nat) : List Nat := minK (M.filter fun r => !P (evW r))
def settleF (P : Nat → Bool) (M F : List Nat) : List Nat := minK (F ++ (M.filter fun r => P (evW r)).map evW)
def settleK (P : Nat → Bool) (M F : List Nat) : Option (List Nat × List Nat) :=
  if (settleR P M).length ≤ 1024 ∧ (settleF P M F).length ≤ 1024 then some (settleR P M, settleF P M F) else none
def runT (V : Nat) (P : Nat → Bool) (nodes : List Nd) : Nat → List Nat → List Nat → Option (List Nat × List Nat)
  | 0, R, F => some (R, F)
  | i + 1, R, F =>
    if R.any (fun r => r.testBit (24 + i)) = true then
      if (expK V (nodes.getD i noNd) i R).length ≤ 4096 then
        (settleK P (expK V (nodes.getD i noNd) i R) F).bind fun p => runT V P nodes i p.1 p.2
      else none
    else runT V P nodes i R F
def topT (V T : Nat) (P : Nat → Bool) (nodes : List Nd) : Option (List Nat × List Nat) :=
  (settleK P [cond V T] []).bind fun p => runT V P nodes nodes.length p.1 p.2

theorem settleK_some {P : Nat → Bool} {M F : List Nat} {p : List Nat × List Nat} (h : settleK P M F = some p) : p = (settleR P M, settleF P M F) ∧ (settleR P M).length ≤ 1024 ∧ (settleF P M F).length ≤ 1024 := by
  unfold settleK at h
  split at h
  · cases h; exact ⟨rfl, by assumption⟩
  · cases h
theorem mem_settleR {P : Nat → Bool} {M : List Nat} {r : Nat} (h : r ∈ settleR P M) : r ∈ M ∧ P (evW r) = false := by
  have := List.mem_filter.1 (mem_minK h)
  simpa using this
theorem mem_settleF {P : Nat → Bool} {M F : List Nat} {t : Nat} (h : t ∈ settleF P M F) : t ∈ F ∨ ∃ r ∈ M, P (evW r) = true ∧ t = evW r := by
  rcases List.mem_append.1 (mem_minK h) with h | h
  · exact .inl h
  · obtain ⟨r, hr, rfl⟩ := List.mem_map.1 h
    have := List.mem_filter.1 hr
    exact .inr ⟨r, this.1, this.2, rfl⟩
/-- What a state satisfies: its own events at least. -/
theorem sat_ev {V s : Nat} {nodes : List Nd} {r : Nat} (h : sat (holdsP V s nodes) r) : subN (evW r) s = true := subN_iff.2 fun i hi => by
  rw [evW_bit] at hi
  simp only [Bool.and_eq_true, decide_eq_true_eq] at hi
  have := h i hi.2
  unfold holdsP at this
  rw [if_pos hi.1] at this
  exact this
theorem settle_says {V s : Nat} {nodes : List Nd} (P : Nat → Bool) (M F : List Nat) :
    (upP (settleR P M) (holdsP V s nodes) → upP M (holdsP V s nodes)) ∧ (upP M (holdsP V s nodes) → upP (settleR P M) (holdsP V s nodes) ∨ up (settleF P M F) s) ∧ (up F s → up (settleF P M F) s) := by
  refine ⟨fun h => ?_, fun h => ?_, fun h => ?_⟩
  · unfold settleR at h
    rw [upP_minK] at h
    obtain ⟨t, ht, hs⟩ := h
    exact ⟨t, (List.mem_filter.1 ht).1, hs⟩
  · obtain ⟨t, ht, hs⟩ := h
    cases hp : P (evW t) with
    | false =>
      left
      unfold settleR
      rw [upP_minK]
      exact ⟨t, List.mem_filter.2 ⟨ht, by simp [hp]⟩, hs⟩
    | true =>
      right
      unfold settleF
      rw [up_minK, up_append]
      exact .inr ⟨evW t, List.mem_map.2 ⟨t, List.mem_filter.2 ⟨ht, hp⟩, rfl⟩, sat_ev hs⟩
  · unfold settleF
    rw [up_minK, up_append]
    exact .inl h
structure TSays (V s : Nat) (nodes : List Nd) (P : Nat → Bool) (R F R' F' : List Nat) : Prop where
  back : upP R' (holdsP V s nodes) → upP R (holdsP V s nodes)
  forth : upP R (holdsP V s nodes) → upP R' (holdsP V s nodes) ∨ up F' s
  front : up F s → up F' s
  rows : (∀ r ∈ R, P (evW r) = false) → ∀ r ∈ R', P (evW r) = false
  outs : (∀ t ∈ F, P t = true) → ∀ t ∈ F', P t = true
  canR : Good R → Good R'
  canF : Good F → Good F'
  mkF : (∀ t ∈ F, t < 16777216) → ∀ t ∈ F', t < 16777216
theorem TSays.trans {V s : Nat} {nodes : List Nd} {P : Nat → Bool} {R F R1 F1 R2 F2 : List Nat} (h : TSays V s nodes P R F R1 F1) (k : TSays V s nodes P R1 F1 R2 F2) : TSays V s nodes P R F R2 F2 :=
  ⟨fun x => h.back (k.back x), fun x => (h.forth x).elim (fun y => k.forth y) fun y => .inr (k.front y), fun x => k.front (h.front x), fun x => k.rows (h.rows x), fun x => k.outs (h.outs x), fun x => k.canR (h.canR x), fun x => k.canF (h.canF x), fun x => k.mkF (h.mkF x)⟩
theorem says_settle {V s : Nat} {nodes : List Nd} (P : Nat → Bool) (M F : List Nat) {p : List Nat × List Nat} (h : settleK P M F = some p) : TSays V s nodes P M F p.1 p.2 := by
  obtain ⟨rfl, h1, h2⟩ := settleK_some h
  obtain ⟨a, b, c⟩ := settle_says (V := V) (s := s) (nodes := nodes) P M F
  refine ⟨a, b, c, fun _ r hr => (mem_settleR hr).2, fun hF t ht => ?_, fun _ => ⟨can_minK _, h1⟩, fun _ => ⟨can_minK _, h2⟩, fun hF t ht => ?_⟩
  · rcases mem_settleF ht with h | ⟨r, _, h, rfl⟩
    · exact hF t h
    · exact h
  · rcases mem_settleF ht with h | ⟨r, _, _, rfl⟩
    · exact hF t h
    · exact evW_lt r
theorem runT_says {V T : Nat} {f : Fm} (hok : Ok f V T) (hs : synK V T f = true) (P : Nat → Bool) (s : Nat) : ∀ i R F p, i ≤ f.nodes.length → (∀ r ∈ R, Marked V (belowK V T f.nodes) r) → (∀ r ∈ R, RowLt (24 + i) r) → runT V P f.nodes i R F = some p →
    TSays V s f.nodes P R F p.1 p.2 ∧ ∀ r ∈ p.1, RowLt 24 r := by
  intro i
  induction i with
  | zero =>
    intro R F p _ _ hl h
    cases h
    exact ⟨⟨fun h => h, fun h => .inl h, fun h => h, fun h => h, fun h => h, fun h => h, fun h => h, fun h => h⟩, hl⟩
  | succ i ih =>
    intro R F p hi hm hl h
    have hil : i < f.nodes.length := by omega
    have hnd : f.nodes.getD i noNd = f.nodes[i] := by simp [List.getD_eq_getElem?_getD, hil]
    unfold runT at h
    rw [hnd] at h
    split at h
    · split at h
      · cases h1 : settleK P (expK V f.nodes[i] i R) F with
        | none => rw [h1] at h; cases h
        | some q =>
          rw [h1] at h
          have h2 : runT V P f.nodes i q.1 q.2 = some p := h
          have hq := (settleK_some h1).1
          have hmE := marked_expK (i := i) hok.v24 hm (fun hk a ha => ⟨(hok.args i hil a ha).1, below_closed V T f hok i hil hk a ha⟩)
          have hlE := rowLt_expK hok.v24 (hok.args i hil) hl
          have hup := upP_expK V (holdsP V s f.nodes) (valsK V s f.nodes) f.nodes[i] i R fun r hr hb => by
            have hmk := hm r hr i hb
            have hkd := kind_mono hok hs i hil hmk
            refine ⟨says_args hok s _ fun a ha => (hok.args i hil a ha).1, hkd, fun h4 => ?_, holds_node hok s i hil⟩
            have := hok.arity i hil
            unfold chkK at this
            rw [if_neg (by omega), if_pos h4] at this
            split at this
            · omega
            · cases this
          have hset := says_settle (V := V) (s := s) (nodes := f.nodes) P _ F h1
          obtain ⟨h3, h4⟩ := ih q.1 q.2 p (by omega) (fun r hr => hmE r (by rw [hq] at hr; exact (mem_settleR hr).1)) (fun r hr => hlE r (by rw [hq] at hr; exact (mem_settleR hr).1)) h2
          refine ⟨TSays.trans ⟨fun x => hup.1 (hset.back x), fun x => hset.forth (hup.2 x), hset.front, fun _ r hr => ?_, hset.outs, fun _ => ?_, hset.canF, hset.mkF⟩ h3, h4⟩
          · rw [hq] at hr; exact (mem_settleR hr).2
          · rw [hq]; exact ⟨can_minK _, (settleK_some h1).2.1⟩
      · cases h
    · rename_i hany
      exact ih R F p (by omega) hm (rowLt_skip hl hany) h
/-- The answer of the search with a limit. -/
structure TopT (V T : Nat) (f : Fm) (P : Nat → Bool) (R F : List Nat) : Prop where
  goodR : Good R
  goodF : Good F
  mkR : ∀ r ∈ R, r < 16777216
  mkF : ∀ r ∈ F, r < 16777216
  kept : ∀ r ∈ R, P r = false
  outs : ∀ r ∈ F, P r = true
  sound : ∀ s, up R s → (valsK V s f.nodes).getD T false = true
  covers : ∀ s, (valsK V s f.nodes).getD T false = true → up R s ∨ up F s
theorem evW_of_lt {r : Nat} (h : r < 16777216) : evW r = r := Nat.mod_eq_of_lt h
theorem topT_says {V T : Nat} {f : Fm} (hok : Ok f V T) (hs : synK V T f = true) (P : Nat → Bool) {p : List Nat × List Nat} (h : topT V T P f.nodes = some p) : TopT V T f P p.1 p.2 := by
  have hT := hok.tlt
  have hV := hok.v24
  have hlt : ∀ r ∈ [cond V (T : Int)], RowLt (24 + f.nodes.length) r := by
    intro r hr
    simp at hr
    subst hr
    exact rowLt_cond (by omega) hV
  have hmk : ∀ r ∈ [cond V (T : Int)], Marked V (belowK V T f.nodes) r := by
    intro r hr
    simp at hr
    subst hr
    refine marked_cond (by omega) hV ?_
    unfold belowK
    refine belowGo_keep V f.nodes _ _ _ ?_
    rw [List.getD_eq_getElem?_getD, Int.toNat_natCast, List.getElem?_set_self (by simp; omega)]; rfl
  unfold topT at h
  cases h1 : settleK P [cond V (T : Int)] [] with
  | none => rw [h1] at h; cases h
  | some q =>
    rw [h1] at h
    have h2 : runT V P f.nodes f.nodes.length q.1 q.2 = some p := h
    have hq := (settleK_some h1).1
    have hmq : ∀ r ∈ q.1, Marked V (belowK V T f.nodes) r := fun r hr => hmk r (by rw [hq] at hr; exact (mem_settleR hr).1)
    have hlq : ∀ r ∈ q.1, RowLt (24 + f.nodes.length) r := fun r hr => hlt r (by rw [hq] at hr; exact (mem_settleR hr).1)
    have hT0 : ∀ s, TSays V s f.nodes P [cond V (T : Int)] [] p.1 p.2 := fun s => (says_settle P _ _ h1).trans (runT_says hok hs P s _ _ _ p (Nat.le_refl _) hmq hlq h2).1
    have h24 := (runT_says hok hs P 0 _ _ _ p (Nat.le_refl _) hmq hlq h2).2
    have hR24 : ∀ r ∈ p.1, r < 16777216 := fun r hr => rowLt_num (h24 r hr)
    have hup : ∀ s, up p.1 s ↔ upP p.1 (holdsP V s f.nodes) := by
      intro s
      unfold up upP
      have : ∀ r ∈ p.1, (subN r s = true ↔ sat (holdsP V s f.nodes) r) := by
        intro r hr
        rw [subN_iff]
        unfold sat holdsP
        constructor
        · intro h i hi
          rw [if_pos (h24 r hr i hi)]; exact h i hi
        · intro h i hi
          have := h i hi
          rw [if_pos (h24 r hr i hi)] at this; exact this
      exact ⟨fun ⟨r, hr, h⟩ => ⟨r, hr, (this r hr).1 h⟩, fun ⟨r, hr, h⟩ => ⟨r, hr, (this r hr).2 h⟩⟩
    have htop : ∀ s, upP [cond V (T : Int)] (holdsP V s f.nodes) ↔ (valsK V s f.nodes).getD T false = true := by
      intro s
      rw [upP_one]
      have := says_args hok s [(T : Int)] (by simp) (T : Int) (by simp)
      rw [this]; simp
    refine ⟨(runT_says hok hs P 0 _ _ _ p (Nat.le_refl _) hmq hlq h2).1.canR (by rw [hq]; exact ⟨can_minK _, (settleK_some h1).2.1⟩), (hT0 0).canF good_nil, hR24, (hT0 0).mkF (by simp), fun r hr => ?_, (hT0 0).outs (by simp), fun s hu => ?_, fun s hv => ?_⟩
    · have := (runT_says hok hs P 0 _ _ _ p (Nat.le_refl _) hmq hlq h2).1.rows (fun r hr => by rw [hq] at hr; exact (mem_settleR hr).2) r hr
      rw [evW_of_lt (hR24 r hr)] at this
      exact this
    · exact (htop s).1 ((hT0 s).back ((hup s).1 hu))
    · rw [hup]; exact (hT0 s).forth ((htop s).2 hv)
/-- With a limit that grows with the set: the kept sets, said without the search. -/
theorem TopT.mem {V T : Nat} {f : Fm} {P : Nat → Bool} {R F : List Nat} (h : TopT V T f P R F) (hP : ∀ a b, subN a b = true → P a = true → P b = true) (r : Nat) :
    r ∈ R ↔ P r = false ∧ (valsK V r f.nodes).getD T false = true ∧ ∀ t, subN t r = true → (valsK V t f.nodes).getD T false = true → t = r := by
  have huF : ∀ s, P s = false → ¬ up F s := by
    rintro s hs ⟨t, ht, hsub⟩
    have := hP t s hsub (h.outs t ht)
    rw [hs] at this; cases this
  have hcan : ∀ x ∈ R, ∀ y ∈ R, subN y x = true → y = x := by
    intro x hx y hy hyx
    have hc := h.goodR.1
    rw [← hc] at hx
    exact ((mem_minK_iff R x).1 hx).2 y hy hyx
  constructor
  · intro hr
    refine ⟨h.kept r hr, h.sound r ⟨r, hr, subN_refl r⟩, fun t ht hv => ?_⟩
    have hpt : P t = false := by
      cases hp : P t with
      | false => rfl
      | true => have := hP t r ht hp; rw [h.kept r hr] at this; cases this
    obtain ⟨x, hx, hxt⟩ := (h.covers t hv).resolve_right (huF t hpt)
    have := hcan r hr x hx (subN_tr hxt ht)
    subst this
    exact subN_anti ht hxt
  · rintro ⟨hp, hv, hmin⟩
    obtain ⟨x, hx, hxr⟩ := (h.covers r hv).resolve_right (huF r hp)
    have := hmin x hxr (h.sound x ⟨x, hx, subN_refl x⟩)
    subst this
    exact hx
/-- The kept sets are the minimal cut sets within the limit. -/
theorem TopT.kept_cuts {V T : Nat} {f : Fm} {P : Nat → Bool} {R F : List Nat} (hok : Ok f V T) (hs : synK V T f = true) (h : TopT V T f P R F) (hP : ∀ a b, subN a b = true → P a = true → P b = true) {p : List Nat × List Nat} (hp : topK V T f.nodes = some p) :
    R = p.1.filter fun r => !P r := by
  obtain ⟨h1, _, h3⟩ := topK_says hok hs hp
  have hc : p.1.Pairwise ltK := by rw [← h1.1]; exact pair_minK _
  have hR : R.Pairwise ltK := by rw [← h.goodR.1]; exact pair_minK _
  refine pair_unique ltK ltK_irr ltK_tr _ _ hR (hc.filter _) fun r => ?_
  rw [h.mem hP r, List.mem_filter]
  have hcan : ∀ x ∈ p.1, ∀ y ∈ p.1, subN y x = true → y = x := by
    intro x hx y hy hyx
    have hc := h1.1
    rw [← hc] at hx
    exact ((mem_minK_iff p.1 x).1 hx).2 y hy hyx
  constructor
  · rintro ⟨a, b, c⟩
    refine ⟨?_, by simp [a]⟩
    obtain ⟨x, hx, hxr⟩ := (h3 r).2 b
    have := c x hxr ((h3 x).1 ⟨x, hx, subN_refl x⟩)
    subst this
    exact hx
  · rintro ⟨a, b⟩
    refine ⟨by simpa using b, (h3 r).1 ⟨r, a, subN_refl r⟩, fun t ht hv => ?_⟩
    obtain ⟨x, hx, hxt⟩ := (h3 t).2 hv
    have := hcan r a x hx (subN_tr hxt ht)
    subst this
    exact subN_anti ht hxt
/-- Where the search with a limit stands: rows L in some order, the frontier, what is still to come. -/
structure TStand (V T : Nat) (f : Fm) (P : Nat → Bool) (L F : List Nat) (m : Nat) : Prop where
  le : m ≤ f.nodes.length
  lt : ∀ r ∈ L, RowLt (24 + m) r
  mkd : ∀ r ∈ L, Marked V (belowK V T f.nodes) r
  len : L.length ≤ 1024
  lenF : F.length ≤ 1024
  mkF : ∀ t ∈ F, t < 16777216
  run : ∃ R : List Nat, L.Perm R ∧ topT V T P f.nodes = runT V P f.nodes m R F
theorem settleR_perm {P : Nat → Bool} {L R : List Nat} (h : L.Perm R) : settleR P L = settleR P R := minK_perm (h.filter _)
theorem settleF_perm {P : Nat → Bool} {L R F : List Nat} (h : L.Perm R) : settleF P L F = settleF P R F := minK_perm (((h.filter _).map _).append_left _)
theorem TStand.start {V T : Nat} {f : Fm} (hok : Ok f V T) {P : Nat → Bool} {M F : List Nat} (hM : M.Perm (settleR P [cond V T])) (hF : F = settleF P [cond V T] []) (hl : M.length ≤ 1024) (hlF : F.length ≤ 1024) : TStand V T f P M F f.nodes.length := by
  have hT := hok.tlt
  have hmem : ∀ r ∈ M, r = cond V T := fun r hr => by simpa using (mem_settleR (hM.mem_iff.1 hr)).1
  refine ⟨Nat.le_refl _, fun r hr => ?_, fun r hr => ?_, hl, hlF, fun t ht => ?_, ⟨settleR P [cond V T], hM, ?_⟩⟩
  · rw [hmem r hr]; exact rowLt_cond (by omega) hok.v24
  · rw [hmem r hr]
    refine marked_cond (by omega) hok.v24 ?_
    unfold belowK
    refine belowGo_keep V f.nodes _ _ _ ?_
    rw [List.getD_eq_getElem?_getD, Int.toNat_natCast, List.getElem?_set_self (by simp; omega)]; rfl
  · rw [hF] at ht
    rcases mem_settleF ht with h | ⟨r, _, _, rfl⟩
    · cases h
    · exact evW_lt r
  · unfold topT settleK
    rw [if_pos ⟨by rw [← hM.length_eq]; exact hl, by rw [← hF]; exact hlF⟩, hF]; rfl
theorem TStand.bad {V T : Nat} {P : Nat → Bool} {nodes : List Nd} (h : 1024 < (settleR P [cond V T]).length ∨ 1024 < (settleF P [cond V T] []).length) : topT V T P nodes = none := by
  unfold topT settleK
  rw [if_neg (by omega)]; rfl
theorem runT_skip (V : Nat) (P : Nat → Bool) (nodes : List Nd) (i : Nat) (R F : List Nat) : ∀ m, i ≤ m → (∀ j, i ≤ j → j < m → R.any (fun r => r.testBit (24 + j)) = false) → runT V P nodes m R F = runT V P nodes i R F := by
  intro m
  induction m with
  | zero => intro h _; have : i = 0 := by omega
            subst this; rfl
  | succ m ih =>
    intro h hj
    by_cases e : i = m + 1
    · subst e; rfl
    · rw [← ih (by omega) fun j h1 h2 => hj j h1 (by omega)]
      conv => lhs; unfold runT
      rw [if_neg (by rw [hj m (by omega) (by omega)]; simp)]
theorem TStand.done {V T : Nat} {f : Fm} {P : Nat → Bool} {L F : List Nat} {m : Nat} (h : TStand V T f P L F m) (hn : ∀ c ∈ L, ∀ j, c.testBit (24 + j) = true → False) : ∃ R, topT V T P f.nodes = some (R, F) ∧ L.Perm R := by
  obtain ⟨R, hp, hr⟩ := h.run
  refine ⟨R, ?_, hp⟩
  rw [hr, runT_skip V P f.nodes 0 R F m (Nat.zero_le _) fun j _ _ => ?_]
  · rfl
  · rw [List.any_eq_false]
    intro r hr hb
    exact hn r (hp.mem_iff.2 hr) j hb
theorem TStand.at {V T : Nat} {f : Fm} {P : Nat → Bool} {L F : List Nat} {m i : Nat} (h : TStand V T f P L F m) (hi : ∃ c ∈ L, c.testBit (24 + i) = true) (hmax : ∀ c ∈ L, ∀ j, c.testBit (24 + j) = true → j ≤ i) :
    i < m ∧ (belowK V T f.nodes).getD (V + i) false = true ∧ ∃ R : List Nat, L.Perm R ∧ R.any (fun r => r.testBit (24 + i)) = true ∧ topT V T P f.nodes = runT V P f.nodes (i + 1) R F := by
  obtain ⟨c, hc, hb⟩ := hi
  have him : i < m := by have := h.lt c hc _ hb; omega
  obtain ⟨R, hp, hr⟩ := h.run
  refine ⟨him, h.mkd c hc i hb, R, hp, List.any_eq_true.2 ⟨c, hp.mem_iff.1 hc, hb⟩, ?_⟩
  rw [hr, runT_skip V P f.nodes (i + 1) R F m (by omega) fun j h1 _ => ?_]
  rw [List.any_eq_false]
  intro r hr hb
  have := hmax r (hp.mem_iff.2 hr) j hb
  omega
theorem TStand.full {V T : Nat} {f : Fm} {P : Nat → Bool} {L F : List Nat} {m i : Nat} (h : TStand V T f P L F m) (hi : ∃ c ∈ L, c.testBit (24 + i) = true) (hmax : ∀ c ∈ L, ∀ j, c.testBit (24 + j) = true → j ≤ i)
    (hl : 4096 < (expK V (f.nodes.getD i noNd) i L).length) : topT V T P f.nodes = none := by
  obtain ⟨_, _, R, hp, ha, hr⟩ := h.at hi hmax
  rw [hr]
  conv => lhs; unfold runT
  rw [if_pos ha, if_neg (by rw [← (expK_perm (V := V) (i := i) (x := f.nodes.getD i noNd) hp).length_eq]; omega)]
theorem TStand.many {V T : Nat} {f : Fm} {P : Nat → Bool} {L F : List Nat} {m i : Nat} (h : TStand V T f P L F m) (hi : ∃ c ∈ L, c.testBit (24 + i) = true) (hmax : ∀ c ∈ L, ∀ j, c.testBit (24 + j) = true → j ≤ i)
    (hl : 1024 < (settleR P (expK V (f.nodes.getD i noNd) i L)).length ∨ 1024 < (settleF P (expK V (f.nodes.getD i noNd) i L) F).length) : topT V T P f.nodes = none := by
  obtain ⟨_, _, R, hp, ha, hr⟩ := h.at hi hmax
  have he := expK_perm (V := V) (i := i) (x := f.nodes.getD i noNd) hp
  rw [hr]
  conv => lhs; unfold runT
  rw [if_pos ha]
  split
  · unfold settleK
    rw [if_neg (by rw [← settleR_perm he, ← settleF_perm he]; omega)]; rfl
  · rfl
theorem TStand.next {V T : Nat} {f : Fm} (hok : Ok f V T) {P : Nat → Bool} {L M F F' : List Nat} {m i : Nat} (h : TStand V T f P L F m) (hi : ∃ c ∈ L, c.testBit (24 + i) = true) (hmax : ∀ c ∈ L, ∀ j, c.testBit (24 + j) = true → j ≤ i)
    (hl4 : (expK V (f.nodes.getD i noNd) i L).length ≤ 4096) (hM : M.Perm (settleR P (expK V (f.nodes.getD i noNd) i L))) (hF : F' = settleF P (expK V (f.nodes.getD i noNd) i L) F) (hl : M.length ≤ 1024) (hlF : F'.length ≤ 1024) : TStand V T f P M F' i := by
  obtain ⟨him, hmk, R, hp, ha, hr⟩ := h.at hi hmax
  have hle := h.le
  have hil : i < f.nodes.length := by omega
  have hnd : f.nodes.getD i noNd = f.nodes[i] := by simp [List.getD_eq_getElem?_getD, hil]
  have he := expK_perm (V := V) (i := i) (x := f.nodes.getD i noNd) hp
  have hmem : ∀ r ∈ M, r ∈ expK V (f.nodes.getD i noNd) i L := fun r hr => (mem_settleR (hM.mem_iff.1 hr)).1
  refine ⟨by omega, fun r hr => ?_, fun r hr => ?_, hl, hlF, fun t ht => ?_, ⟨settleR P (expK V (f.nodes.getD i noNd) i R), by rw [← settleR_perm he]; exact hM, ?_⟩⟩
  · refine rowLt_expK hok.v24 (by rw [hnd]; exact hok.args i hil) (fun c hc j hj => ?_) r (hmem r hr)
    by_cases h24 : j < 24
    · omega
    · have := hmax c hc (j - 24) (by rw [show 24 + (j - 24) = j by omega]; exact hj)
      omega
  · exact marked_expK hok.v24 h.mkd (fun hk a ha => by rw [hnd] at ha; exact ⟨(hok.args i hil a ha).1, below_closed V T f hok i hil hk a ha⟩) r (hmem r hr)
  · rw [hF] at ht
    rcases mem_settleF ht with h2 | ⟨r, _, _, rfl⟩
    · exact h.mkF t h2
    · exact evW_lt r
  · rw [hr]
    conv => lhs; unfold runT
    rw [if_pos ha, if_pos (by rw [← he.length_eq]; exact hl4)]
    unfold settleK
    rw [← settleR_perm he, ← settleF_perm he, if_pos ⟨by rw [← hM.length_eq]; exact hl, by rw [← hF]; exact hlF⟩, hF]; rfl
end Go.Proofs.YteodabnjkikogaaGreat

/-
  Walks: the cutter of truncate: what settle's second loop carries.
-/
namespace Go.Proofs.YteodabnjkikogaaGreat.Tr
open Go.RowKit
variable {y0 y1 y2 y3 y5 y6 : Value}

/-- The cutter, by its rows. -/
def CutR (y0 y1 y2 y3 y5 y6 : Value) (w : World) (gl B : Nat) (v : Value) (L : List Nat) : Prop := RowAt w gl 101 [y0, y1, y2, y3, v, y5, y6] ∧ OwnRws w B v L
theorem settle_step {W w5 : World} {gl B n cap gg c : Nat} {L : List Nat} {v : Value} {O : Obj} (hr : RowAt W gl 101 [y0, y1, y2, y3, v, y5, y6]) (hv : OwnRws W B v L) (hB : B ≤ W.heap.size) (hc : RowLt 152 c) (hl : L.length ≤ 4097) (hn : n = L.length)
    (hown : w5.ownsRow B 103 3 (.slice (some ⟨gg, 0, none⟩) (n + 1) cap) (n + 1) (L.flatMap rcells ++ rcells c)) (hg : ((W.alloc O).drew).grownBy w5 v.ownBlock) (hat : v.ownBlock = some gg ∨ gg = W.heap.size + 1) :
    CutR y0 y1 y2 y3 y5 y6 (w5.setCell ⟨gl, 4, none⟩ (.slice (some ⟨gg, 0, none⟩) (n + 1) cap)) gl B (.slice (some ⟨gg, 0, none⟩) (n + 1) cap) (L ++ [c]) ∧ Frm gl v (.slice (some ⟨gg, 0, none⟩) (n + 1) cap) W (w5.setCell ⟨gl, 4, none⟩ (.slice (some ⟨gg, 0, none⟩) (n + 1) cap)) := by
  have hgl := hr.lt
  have k1 : Kept W (W.alloc O).drew := ((Kept.refl W).alloc O).drew
  have hb : w5.heap[gl]? = W.heap[gl]? := (hg.block gl (by simp; omega) (list_apart hv hr)).trans (k1.block gl hgl)
  have hr5 := hr.same hb
  have hv5 : OwnRws w5 B (.slice (some ⟨gg, 0, none⟩) (n + 1) cap) (L ++ [c]) := by
    refine ⟨by rw [List.flatMap_append, List.flatMap_cons, List.flatMap_nil, List.append_nil, List.length_append, List.length_singleton, ← hn]; exact hown, by simp; omega, fun x hx => ?_⟩
    rcases List.mem_append.1 hx with hx | hx
    · exact hv.2.2 x hx
    · simp at hx; subst hx; exact hc
  have hne5 := list_apart hv5 hr5
  refine ⟨⟨?_, hv5.store_other hne5 4 _⟩, ?_⟩
  · have := hr5.store 4 (.slice (some ⟨gg, 0, none⟩) (n + 1) cap)
    simpa using this
  · have h2 : Below B (W.alloc O).drew w5 := grown_below hg (hv.kept k1).1 (by simp; omega)
    have h3 : Below 0 W (w5.setCell ⟨gl, 4, none⟩ (.slice (some ⟨gg, 0, none⟩) (n + 1) cap)) := Below.setCell ((k1.mono (Nat.zero_le _)).trans (h2.mono (Nat.zero_le _))) (Nat.zero_le _) _
    refine ⟨h3.os, h3.tape, h3.output, h3.size, fun k hk e1 e2 => ?_, ?_⟩
    · exact (Below.heap_setCell w5 ⟨gl, 4, none⟩ _ k e1).trans ((hg.block k (by simp; omega) e2).trans (k1.block k hk))
    · rcases hat with h | h
      · exact .inl h.symm
      · refine .inr fun g hg' => ?_
        have : gg = g := by simpa [Value.ownBlock] using hg'
        omega
theorem heap_new1d (w : World) (O : Obj) : ((w.alloc O).drew).heap[w.heap.size]? = some O :=
  (Below.block (Kept.refl (w.alloc O)).drew w.heap.size (by simp)).trans (heap_alloc_new w O)
theorem own_frm {w w' : World} {gl B size n : Nat} {e : TypeId} {v u' : Value} {xs : List Value} (h : w.ownsRow B e size v n xs) (hg : gl < B) (hf : Frm gl (.slice none 0 0) u' w w') : w'.ownsRow B e size v n xs := by
  obtain ⟨h1, h2⟩ := h
  refine ⟨h1, h2.imp id ?_⟩
  rintro ⟨b, cap, cur, rfl, h5, h6, h7⟩
  exact ⟨b, cap, cur, rfl, h5, (hf.block b (heap_lt h6) (by omega) (by simp [Value.ownBlock])).trans h6, h7⟩
theorem rws_frm {w w' : World} {gl B : Nat} {v u' : Value} {L : List Nat} (h : OwnRws w B v L) (hg : gl < B) (hf : Frm gl (.slice none 0 0) u' w w') : OwnRws w' B v L := ⟨own_frm h.1 hg hf, h.2⟩
theorem ints_frm {w w' : World} {gl B : Nat} {v u' : Value} {L : List Int} (h : OwnInts w B v L) (hg : gl < B) (hf : Frm gl (.slice none 0 0) u' w w') : OwnInts w' B v L := ⟨own_frm h.1 hg hf, h.2⟩
theorem frm_store {w w' : World} {gl : Nat} (h : Kept w w') (i : Nat) (u : Value) : Frm gl (.slice none 0 0) (.slice none 0 0) w (w'.setCell ⟨gl, i, none⟩ u) := by
  have h3 : Below 0 w (w'.setCell ⟨gl, i, none⟩ u) := Below.setCell (h.mono (Nat.zero_le _)) (Nat.zero_le _) _
  exact ⟨h3.os, h3.tape, h3.output, h3.size, fun k hk e1 _ => (Below.heap_setCell w' ⟨gl, i, none⟩ u k e1).trans (h.block k hk), .inl rfl⟩
theorem sort_ints {w w' : World} {B : Nat} {v u : Value} {L : List Int} (h : OwnInts w B v L) {L1 : List Nat} {B' : Nat} (h' : OwnRws w B' u L1) (hg : ∀ k, k < w.heap.size → some k ≠ u.ownBlock → w'.heap[k]? = w.heap[k]?) : OwnInts w' B v L :=
  ⟨own_tag h.1 h'.1 (by decide) hg, h.2⟩
end Go.Proofs.YteodabnjkikogaaGreat.Tr

/-
  Walks: topdown.least.
-/
namespace Go.Proofs.YteodabnjkikogaaGreat.Tr
open Go.RowKit

theorem addr_add (b o j : Nat) : (⟨b, o, none⟩ : Addr).add j = ⟨b, o + j, none⟩ := by unfold Addr.add; split <;> simp_all
def DecidesR (g : Nat) (lb : Array Value) (p : Nat → Bool) (w : World) : Prop :=
  ∀ (W : World) (x : Nat), Kept w W → RowLt 152 x → Calls Tryz.prog g (#[rowV x] ++ lb) W fun e W' => e = .returned (.bool (p x)) ∧ Kept W W'
set_option maxRecDepth 100000 in
theorem indexR_any (g : Nat) (lb : Array Value) (eg : ∀ args w, (callFunc g args).run Tryz.prog w = .ok (.enter g args) w) (p : Nat → Bool) (v : Value) (L : List Nat) (w : World)
    (hp : DecidesR g lb p w) (hv : RwsAt w v L) :
    Calls Tryz.prog 180 #[v, .func (.func g) #[] lb] w fun e w' => (∃ n : Int, e = .returned (.int .i64 n) ∧ (decide (0 ≤ n) = L.any p)) ∧ Kept w w' := by
  obtain ⟨a, c, rfl, ⟨hc, _⟩, hl, hlt, hx⟩ := hv
  obtain ⟨n, hn⟩ : ∃ n, n = L.length := ⟨_, rfl⟩
  have hbig : n ≤ 10000 := by omega
  rw [← hn]
  have HX := Lib.hid hx
  have HN := Lib.hid hn
  have HP := Lib.hid hp
  have HLT := Lib.hid hlt
  clear hx hn hp hl hc hlt
  go_enter Tryz.func180, Tryz.ntmps180
  go_wp2
  go_loopg [8] n (fun kx i wr => ∃ k : Nat, k ≤ n ∧ i = .int .i64 k ∧ n - k ≤ kx ∧ Hid (∀ x ∈ L.take k, p x = false) ∧ Hid (Kept w wr))
  case atStart => exact ⟨0, Nat.zero_le _, rfl, by omega, Lib.hid (by simp), Lib.hid (Kept.refl _)⟩
  case round =>
    obtain ⟨k, hk, rfl, hkx, HF, HK⟩ := hrel
    by_cases hlt : k < n
    · have hkl : k < L.length := by have := HN.out; omega
      obtain ⟨b, o, rfl, hrg⟩ := HX.out k hkl
      have hrg2 := range_kept hrg HK.out
      have hxl := HLT.out L[k] (List.getElem_mem _)
      obtain ⟨x, hxx⟩ : ∃ x, x = L[k] := ⟨_, rfl⟩
      rw [← hxx] at hrg2 hxl
      have HXX := Lib.hid hxx
      have HRG : Hid (wr.rangeAt b (o + k * 3) [.int .i64 (evW x), .int .u64 (loW x), .int .u64 (hiW x)]) := Lib.hid hrg2
      have HC : Hid (∀ W, Kept w W → Calls Tryz.prog g (#[.agg #[.int .i64 (evW x), .int .u64 (loW x), .int .u64 (hiW x)]] ++ lb) W fun e W' => e = .returned (.bool (p x)) ∧ Kept W W') := Lib.hid fun W hk => HP.out W x hk hxl
      have hkn : (k : Int) < (n : Int) := by omega
      obtain ⟨z0, hz0⟩ : ∃ z, z = evW x := ⟨_, rfl⟩
      obtain ⟨z1, hz1⟩ : ∃ z, z = loW x := ⟨_, rfl⟩
      obtain ⟨z2, hz2⟩ : ∃ z, z = hiW x := ⟨_, rfl⟩
      rw [← hz0, ← hz1, ← hz2] at HRG HC
      clear hrg hrg2 hxx hxl hz0 hz1 hz2
      cases hq : p x with
      | true =>
        rw [hq] at HC
        have HQ := Lib.hid hq
        clear hq
        go_wp2_with (first | (with_reducible refine wpList_load_mid rfl 103 _ rfl b (o + k * 3) rfl _ _ HRG.out Tryz.underlying103 rfl (by kernel_rfl) ?_) | (go_at_fn g; refine (HC.out _ HK.out).mono ?_; rintro e w' ⟨rfl, hK2⟩))
        go_ret
        refine ⟨⟨k, rfl, ?_⟩, HK.out.trans hK2⟩
        have : L.any p = true := List.any_eq_true.2 ⟨x, by rw [HXX.out]; exact List.getElem_mem _, HQ.out⟩
        rw [this]; simp
      | false =>
        rw [hq] at HC
        have HQ := Lib.hid hq
        clear hq
        go_wp2_with (first | (with_reducible refine wpList_load_mid rfl 103 _ rfl b (o + k * 3) rfl _ _ HRG.out Tryz.underlying103 rfl (by kernel_rfl) ?_) | (go_at_fn g; refine (HC.out _ HK.out).mono ?_; rintro e w' ⟨rfl, hK2⟩))
        go_roundg (n - (k + 1))
        case measure => omega
        case rel =>
          refine ⟨k + 1, by omega, by go_num, Nat.le_refl _, Lib.hid ?_, Lib.hid (HK.out.trans hK2)⟩
          intro y hy
          rw [List.take_succ_eq_append_getElem hkl] at hy
          rcases List.mem_append.1 hy with hy | hy
          · exact HF.out y hy
          · simp at hy; rw [hy, ← HXX.out]; exact HQ.out
    · go_wp2
      go_ret
      refine ⟨⟨-1, rfl, ?_⟩, HK.out⟩
      have hh := HF.out
      rw [List.take_of_length_le (by have := HN.out; omega)] at hh
      have : L.any p = false := by rw [List.any_eq_false]; intro y hy; simp [hh y hy]
      rw [this]; rfl
set_option maxRecDepth 100000 in
theorem hasR_any (g : Nat) (lb : Array Value) (eg : ∀ args w, (callFunc g args).run Tryz.prog w = .ok (.enter g args) w) (p : Nat → Bool) (v : Value) (L : List Nat) (w : World)
    (hp : DecidesR g lb p w) (hv : RwsAt w v L) :
    Calls Tryz.prog 129 #[v, .func (.func g) #[] lb] w fun e w' => e = .returned (.bool (L.any p)) ∧ Kept w w' := by
  have h := indexR_any g lb eg p v L w hp hv
  have H := Lib.hid h
  clear h hp hv eg
  obtain ⟨r, hr⟩ : ∃ r, r = L.any p := ⟨_, rfl⟩
  rw [← hr] at H ⊢
  clear hr
  go_enter Tryz.func129, Tryz.ntmps129
  go_wp2_with (go_at_call 180; refine H.out.mono ?_; rintro e w' ⟨⟨n, rfl, hn⟩, hK⟩; have HN := Lib.hid hn; clear hn)
  go_ret
  exact ⟨by rw [← HN.out]; rfl, hK⟩
set_option maxRecDepth 100000 in
theorem decides_part (c B : Nat) (w : World) (hc : RowLt 152 c) (h0 : w.cell? ⟨B, 0, none⟩ = some (.int .i64 (evW c))) (h1 : w.cell? ⟨B, 1, none⟩ = some (.int .u64 (loW c))) (h2 : w.cell? ⟨B, 2, none⟩ = some (.int .u64 (hiW c))) :
    DecidesR 130 #[.pointer (some ⟨B, 0, none⟩)] (fun t => subN t c) w := by
  intro W x hK hx
  show Calls Tryz.prog _ _ W fun e W' => e = .returned (.bool (subN x c)) ∧ Kept W W'
  have h0' := hK.cell h0
  have h1' := hK.cell h1
  have h2' := hK.cell h2
  have HP : Hid (∀ W', Calls Tryz.prog 131 #[rowV x, rowV c] W' fun e w' => e = .returned (.bool (subN x c)) ∧ ∃ C O, w' = (W'.alloc C).alloc O) := Lib.hid fun W' => twithin_any hx hc W'
  have hbl : B < W.heap.size := by
    by_cases h : B < W.heap.size
    · exact h
    · simp [World.cell?, Array.getElem?_eq_none (Nat.le_of_not_lt h)] at h0'
  unfold rowV at *
  generalize subN x c = q at *
  generalize evW c = y0 at *
  generalize loW c = y1 at *
  generalize hiW c = y2 at *
  generalize evW x = z0 at *
  generalize loW x = z1 at *
  generalize hiW x = z2 at *
  clear h0 h1 h2 hK hx hc
  show Calls Tryz.prog 130 #[.agg #[.int .i64 z0, .int .u64 z1, .int .u64 z2], .pointer (some ⟨B, 0, none⟩)] W _
  go_enter Tryz.func130, Tryz.ntmps130
  go_wp2_with (go_at_call 131; refine (HP.out _).mono ?_; rintro e w' ⟨rfl, C, O, rfl⟩)
  go_ret
  exact ⟨rfl, (((Kept.refl _).alloc _).alloc _).alloc _⟩
theorem minN_take (l : List Nat) (k : Nat) (h : k < l.length) : minN (l.take (k + 1)) = keepN (minN (l.take k)) l[k] := by
  unfold minN
  rw [List.take_succ_eq_append_getElem h, List.foldl_append]; rfl
theorem range_row (w : World) (x0 x1 x2 : Value) (e : TypeId) : (w.alloc (.cells #[x0, x1, x2] e)).rangeAt w.heap.size 0 [x0, x1, x2] := by
  intro j v hj
  match j, hj with
  | 0, hj => simp at hj; subst hj; simp
  | 1, hj => simp at hj; subst hj; simp
  | 2, hj => simp at hj; subst hj; simp
end Go.Proofs.YteodabnjkikogaaGreat.Tr

/-
  Walks: truncate.minimal.
-/
namespace Go.Proofs.YteodabnjkikogaaGreat.Tr
open Go.RowKit

theorem fold_sub (l : List Nat) : ∀ out, (l.foldl keepN out).Sublist (out ++ l) := by
  induction l with
  | nil => intro out; simp
  | cons s l ih =>
    intro out
    have h := ih (keepN out s)
    show (l.foldl keepN (keepN out s)).Sublist _
    unfold keepN at h ⊢
    split at h
    · rename_i hk
      rw [if_pos hk]
      exact h.trans ((List.Sublist.refl out).append (List.sublist_cons_self s l))
    · rename_i hk
      rw [if_neg hk]
      simpa using h
theorem minN_sorted {rs ns : List Nat} (hp : rs.Pairwise fun a b => ltK a b ∨ a = b) (hm : ∀ x, x ∈ rs ↔ x ∈ ns) : minN rs = minK ns := by
  have hpc : rs.Pairwise fun a b => pc a ≤ pc b := hp.imp fun {a b} h => by
    rcases h with h | h
    · unfold ltK at h; omega
    · subst h; exact Nat.le_refl _
  have hperm := least_perm (List.Perm.refl rs) hpc
  rw [minK_congr ns rs fun x => hm x] at hperm
  have hn : (minN rs).Nodup := hperm.symm.nodup (ltK_nodup (pair_minK ns))
  have hsub : (minN rs).Sublist rs := fold_sub rs []
  have hlt : (minN rs).Pairwise ltK := ((hp.sublist hsub).and hn).imp fun {a b} h => h.1.resolve_right h.2
  exact pair_unique ltK ltK_irr ltK_tr _ _ hlt (pair_minK ns) fun x => hperm.mem_iff
theorem decides_tsub (s : Int) (B : Nat) (w : World) (hc : w.cell? ⟨B, 0, none⟩ = some (.int .i64 s)) : Decides 136 #[.pointer (some ⟨B, 0, none⟩)] (fun t => subB t s) w := by
  intro W x hK
  have hc' := hK.cell hc
  clear hc
  go_enter Tryz.func136, Tryz.ntmps136
  go_wp2_with (go_at_call 137; refine (subset_any _ _ _).mono ?_; rintro e w' ⟨rfl, rfl⟩)
  go_ret
  exact ⟨rfl, Kept.refl _⟩
set_option maxRecDepth 100000 in
set_option maxHeartbeats 4000000 in
theorem tminimal_any (v : Value) (ns : List Nat) (w : World) (hm : ∀ n ∈ ns, Mk n) (hv : IntsAt w v (ofN ns)) (hl : ns.length ≤ 1000000) :
    Calls Tryz.prog 75 #[v] w fun e w' => ∃ v', e = .returned v' ∧ OwnSets w' w.heap.size v' (minK ns) ∧ Kept w w' := by
  have HC := Lib.hid (clone_any v (ofN ns) w hv (by simp [ofN]; omega))
  have HS : Hid (∀ (v1 : Value) (w1 : World), OwnInts w1 w.heap.size v1 (ofN ns) → w.heap.size ≤ w1.heap.size → Calls Tryz.prog 51 #[v1, .func (.func 52) #[] #[]] w1 fun e w' => e = .returned (.tuple #[]) ∧ ∃ rs : List Nat, (∀ n ∈ rs, Mk n) ∧ rs.length = ns.length ∧ (rs.Pairwise (fun a b => ltK a b ∨ a = b) ∧ (∀ x, x ∈ rs ↔ x ∈ ns)) ∧ OwnInts w' w.heap.size v1 (ofN rs) ∧ Below w.heap.size w1 w') := Lib.hid fun v1 w1 ho hs => (sort_any w.heap.size v1 ns w1 hm ho hs).mono fun _ _ ⟨h1, rs, a, b, c, d, e, f⟩ => ⟨h1, rs, a, b, ⟨c, d⟩, e, f⟩
  obtain ⟨sa, sn, sc, rfl⟩ := hv.shape
  have HL := Lib.hid hl
  clear hm hv hl
  go_enter Tryz.func75, Tryz.ntmps75
  go_wp2_with (first
    | (go_at_call 134; refine HC.out.mono ?_; rintro e w1 ⟨v1, rfl, ho1, hk1⟩; have O1 := Lib.hid ho1; have K1 := Lib.hid hk1; obtain ⟨a1, n1, c1, rfl⟩ := ho1.ints.shape; clear ho1 hk1)
    | (go_at_call 51; refine (HS.out _ _ O1.out K1.out.size).mono ?_; rintro e w2 ⟨rfl, rs, hrs1, hrs2, hrs3, ho2, hb2⟩; have R1 := Lib.hid hrs1; have R2 := Lib.hid hrs2; have R3 := Lib.hid hrs3; have O2 := Lib.hid ho2; have K2 := Lib.hid (K1.out.app hb2); clear hrs1 hrs2 hrs3 ho2 hb2))
  obtain ⟨xs, hxs⟩ : ∃ xs, xs = ofN rs := ⟨_, rfl⟩
  have HXS := Lib.hid hxs
  obtain ⟨n, hn⟩ : ∃ n, n = xs.length := ⟨_, rfl⟩
  have HN := Lib.hid hn
  have hn1 : n1 = n := by
    obtain ⟨a', c', h1, _⟩ := O2.out.ints
    injection h1 with _ h2 _
    rw [h2, hn, hxs]
  have hn9 : n ≤ 1000000 := by have := R2.out; have := HL.out; rw [hn, hxs]; simp [ofN]; omega
  subst hn1
  have HX : Hid (IntsAt w2 (.slice a1 n1 c1) xs) := Lib.hid (by rw [hxs]; exact O2.out.ints)
  clear hxs hn
  go_loopg [3, 12] n1 (fun kx s3 s12 wr => ∃ (k : Nat) (vo : Value), s3 = vo ∧ s12 = .int .i64 k ∧ k ≤ n1 ∧ n1 - k ≤ kx ∧ Hid (OwnInts wr w2.heap.size vo (minOf (xs.take k))) ∧ Hid (Kept w2 wr))
  case atStart => exact ⟨0, _, rfl, rfl, Nat.zero_le _, by omega, Lib.hid (OwnInts.nil _ _), Lib.hid (Kept.refl _)⟩
  case round =>
    obtain ⟨k, vo, rfl, rfl, hk, hkx, HO, HK⟩ := hrel
    obtain ⟨oa, on, oc, rfl⟩ := HO.out.ints.shape
    have hB := HK.out.size
    by_cases hlt : k < n1
    · have hkl : k < xs.length := by have := HN.out; omega
      obtain ⟨b, o, rfl, hcell⟩ : ∃ b o, a1 = some ⟨b, o, none⟩ ∧ wr.cell? ⟨b, o + k, none⟩ = some (.int .i64 xs[k]) := by
        obtain ⟨a', c', h1, _, _, h4⟩ := HX.out.kept HK.out
        injection h1 with h1 h2 h3
        subst h1
        exact h4 k hkl
      obtain ⟨s, hs⟩ : ∃ x, x = xs[k] := ⟨_, rfl⟩
      rw [← hs] at hcell
      have hstep := minOf_take xs k hkl
      rw [← hs] at hstep
      have hlen := keepMin_len (xs.take k) []
      obtain ⟨m, hm⟩ : ∃ m, m = minOf (xs.take k) := ⟨_, rfl⟩
      have hml : m.length ≤ k := by rw [hm]; refine Nat.le_trans hlen ?_; simp; omega
      rw [← hm] at HO hstep
      have HSt := Lib.hid hstep
      have hkn : (k : Int) < (n1 : Int) := by omega
      clear hstep hlen hs hm
      have HD := Lib.hid (fun (W : World) (h : Kept (wr.alloc (.cells #[.int .i64 s] 3)) W) => has_any 136 #[.pointer (some ⟨wr.heap.size, 0, none⟩)] (enters_of Tryz.func136 (by kernel_rfl) rfl) (fun t => subB t s) (.slice oa on oc) m W (decides_tsub s wr.heap.size W (h.cell (by simp))) ((HO.out.kept (((Kept.refl _).alloc _).trans h)).ints))
      cases hq : m.any (fun t => subB t s) with
      | true =>
        have HQ := Lib.hid hq
        clear hq
        go_wp2_with (go_at_call 135; refine (HD.out _ (Kept.refl _)).mono ?_; rintro e w3 ⟨rfl, hK2⟩; rw [HQ.out])
        go_roundg (n1 - (k + 1))
        case measure => omega
        case rel => exact ⟨k + 1, _, rfl, by go_num, by omega, Nat.le_refl _, Lib.hid (by rw [HSt.out, keepMin, HQ.out]; exact HO.out.kept (((Kept.refl _).alloc _).trans hK2)), Lib.hid (HK.out.trans (((Kept.refl _).alloc _).trans hK2))⟩
      | false =>
        have HQ := Lib.hid hq
        clear hq
        go_wp2_with (first
          | (go_at_call 135; refine (HD.out _ (Kept.refl _)).mono ?_; rintro e w3 ⟨rfl, hK2⟩; rw [HQ.out]; have hbox := hK2.cell (p := ⟨wr.heap.size, 0, none⟩) (v := .int .i64 s) (by simp); have hz := hK2.size; have HK3 := Lib.hid (((Kept.refl _).alloc _).trans hK2))
          | (at_builtin; refine app_int rfl _ _ rfl w2.heap.size _ m rfl (HO.out.kept (HK3.out.alloc _)) _ s rfl (by simp) (by omega) (by simp at hz ⊢; omega) ?_; intro v7 w7 hown7 _ hb7; have O7 := Lib.hid hown7; have HB7 := Lib.hid hb7; clear hown7 hb7))
        go_roundg (n1 - (k + 1))
        case measure => omega
        case rel => exact ⟨k + 1, _, rfl, by go_num, by omega, Nat.le_refl _, Lib.hid (by rw [HSt.out, keepMin, HQ.out]; exact O7.out), Lib.hid ((HK.out.trans (HK3.out.alloc _)).app HB7.out)⟩
    · have hkn : ¬ (k : Int) < (n1 : Int) := by omega
      have hF : minOf (xs.take k) = ofN (minK ns) := by
        rw [show k = n1 by omega, HN.out, List.take_length, HXS.out, minOf_ofN rs R1.out, minN_sorted R3.out.1 R3.out.2]
      have HF := Lib.hid (by have h := HO.out; rw [hF] at h; exact h)
      have HMM : Hid (∀ x ∈ minK ns, Mk x) := Lib.hid fun x hx => R1.out x ((R3.out.2 x).2 (mem_minK hx))
      clear hF
      go_wp2
      go_ret
      exact ⟨_, rfl, ⟨HF.out.mono K2.out.size, HMM.out⟩, K2.out.trans HK.out⟩
end Go.Proofs.YteodabnjkikogaaGreat.Tr

/-
  Walks: the cutter of truncate: settle, its first loop.
-/
namespace Go.Proofs.YteodabnjkikogaaGreat.Tr
open Go.RowKit
variable {y0 y1 y2 y3 y4 y6 : Value}

theorem RwsAt.get {w : World} {a : Option Addr} {n c : Nat} {L : List Nat} (h : RwsAt w (.slice a n c) L) (i : Nat) (hi : i < L.length) : ∃ b o, a = some ⟨b, o, none⟩ ∧ w.rangeAt b (o + i * 3) (rcells L[i]) := by
  obtain ⟨a', c', h1, _, _, _, h5⟩ := h
  injection h1 with h1
  obtain ⟨b, o, h6, h7⟩ := h5 i hi
  exact ⟨b, o, h1.trans h6, h7⟩
theorem RwsAt.lt {w : World} {v : Value} {L : List Nat} (h : RwsAt w v L) : ∀ c ∈ L, RowLt 152 c := by obtain ⟨_, _, _, _, _, h, _⟩ := h; exact h
theorem app_row1 {ops : Array Oper} {rest : List Oper} {o : Oper} {a : Act} {Q : Exit → Act → World → Prop} {w : World} (hgd : o.guard = none) (s x : Operand)
    (ho : o.op = .call { callee := .builtin .append, args := #[s, x], argTypes := #[99, 99] }) (B : Nat) (v : Value) (L : List Nat) (hs : a.eval s = v) (hown : OwnRws w B v L)
    (g c : Nat) (hx : a.eval x = .slice (some ⟨g, 0, none⟩) 1 1) (hu : w.rangeAt g 0 (rcells c)) (hc : RowLt 152 c) (hl : L.length < 10000) (hB : B ≤ w.heap.size)
    (h : ∀ v' w', OwnRws w' B v' (L ++ [c]) → w.grownBy w' v.ownBlock → Below B w w' → wpList Tryz.prog ops Q rest (a.put o.dst v') w') : wpList Tryz.prog ops Q (o :: rest) a w := by
  obtain ⟨i0, hi0, hz0, hz1, hz2⟩ := info_parts info_trow
  refine wpList_append_own _ hgd s x 99 ho B 103 i0 _ 3 24 Tryz.underlying99 hi0 hz0 hz1 hz2 rfl (by decide) v L.length _ hs hown.1 ⟨g, 0, none⟩ 1 1 (rcells c) hx rfl ?_ ?_ (by unfold maxLen; omega) (by omega) hB ?_
  · intro j u hj
    have := hu j u hj
    rw [addr_add]; exact this
  · intro u hu
    simp [rcells] at hu
    rcases hu with rfl | rfl | rfl <;> rfl
  · intro v' w' h6 h7 _
    refine h v' w' ⟨by rw [List.flatMap_append, List.flatMap_cons, List.flatMap_nil, List.append_nil, List.length_append]; exact h6, by simp; omega, fun x hx => ?_⟩ h7 (grown_below h7 hown.1 hB)
    rcases List.mem_append.1 hx with hx | hx
    · exact hown.2.2 x hx
    · simp at hx; subst hx; exact hc
/-- What the first loop has parted. -/
def inTo (P : Nat → Bool) (M : List Nat) (k : Nat) : List Nat := (M.take k).filter fun r => !P (evW r)
def goneTo (P : Nat → Bool) (M : List Nat) (k : Nat) : List Nat := ((M.take k).filter fun r => P (evW r)).map evW
theorem inTo_succ (P : Nat → Bool) (M : List Nat) (k : Nat) (h : k < M.length) : inTo P M (k + 1) = inTo P M k ++ (if P (evW M[k]) = true then [] else [M[k]]) := by
  unfold inTo
  rw [List.take_succ_eq_append_getElem h, List.filter_append]
  cases hp : P (evW M[k]) <;> simp [hp]
theorem goneTo_succ (P : Nat → Bool) (M : List Nat) (k : Nat) (h : k < M.length) : goneTo P M (k + 1) = goneTo P M k ++ (if P (evW M[k]) = true then [evW M[k]] else []) := by
  unfold goneTo
  rw [List.take_succ_eq_append_getElem h, List.filter_append, List.map_append]
  cases hp : P (evW M[k]) <;> simp [hp]
theorem inTo_len (P : Nat → Bool) (M : List Nat) (k : Nat) : (inTo P M k).length ≤ M.length := by
  unfold inTo
  exact Nat.le_trans (List.length_filter_le ..) (by rw [List.length_take]; omega)
theorem goneTo_len (P : Nat → Bool) (M : List Nat) (k : Nat) : (goneTo P M k).length ≤ M.length := by
  unfold goneTo
  rw [List.length_map]
  exact Nat.le_trans (List.length_filter_le ..) (by rw [List.length_take]; omega)
theorem OwnRws.tag {w w' : World} {B B' size' n' : Nat} {e' : TypeId} {v v' : Value} {L : List Nat} {xs' : List Value} (h : OwnRws w B v L) (h' : w.ownsRow B' e' size' v' n' xs') (hne : 103 ≠ e') (hg : w.grownBy w' v'.ownBlock) : OwnRws w' B v L :=
  ⟨own_tag h.1 h' hne (fun k hk hn => hg.block k hk hn), h.2⟩
theorem ints_tag {w w' : World} {B B' size' n' : Nat} {e' : TypeId} {v v' : Value} {L : List Int} {xs' : List Value} (h : OwnInts w B v L) (h' : w.ownsRow B' e' size' v' n' xs') (hne : 3 ≠ e') (hg : w.grownBy w' v'.ownBlock) : OwnInts w' B v L :=
  ⟨own_tag h.1 h' hne (fun k hk hn => hg.block k hk hn), h.2⟩
theorem frm_low {gl : Nat} {v v' : Value} {w w' : World} (h : Frm gl v v' w w') (hg : gl < w.heap.size) (hv : ∀ g, v.ownBlock = some g → gl < g) : Below gl w w' :=
  ⟨h.os, h.tape, h.output, h.size, fun k hk => h.block k (by omega) (by omega) fun e => by have := hv k e.symm; omega⟩
def SPost (y0 y1 y2 fn mv fv : Value) (gl : Nat) (P : Nat → Bool) (M F : List Nat) (W : World) (e : Ending) (w' : World) : Prop :=
  if 1024 < (settleR P M).length ∨ 1024 < (settleF P M F).length then e = .returned (errV 4) ∧ Below gl W w' else
    e = .returned (errV 0) ∧ ∃ (rv' fv' : Value) (R : List Nat), R.Perm (settleR P M) ∧ RowAt w' gl 101 [y0, y1, y2, fn, rv', mv, fv'] ∧ OwnRws w' W.heap.size rv' R ∧ OwnInts w' W.heap.size fv' (ofN (settleF P M F)) ∧ Frm gl fv fv' W w'
set_option maxRecDepth 100000 in
set_option maxHeartbeats 8000000 in
theorem settle_try (gl bk B : Nat) (kk : Int) (M F : List Nat) (mv fv : Value) (W : World) (hrow : RowAt W gl 101 [y0, y1, y2, .func (.func 62) #[] #[.pointer (some ⟨bk, 0, none⟩)], y4, mv, fv]) (hM : RwsAt W mv M) (hl : M.length ≤ 4096)
    (hF : OwnInts W B fv (ofN F)) (hF1 : F.length ≤ 1024) (hFm : ∀ t ∈ F, Mk t) (hbk : W.cell? ⟨bk, 0, none⟩ = some (.int .i64 kk)) (hgB : gl < B) (hB : B ≤ W.heap.size)
    (hsort : ∀ (B : Nat) (v : Value) (L : List Nat) (w : World), OwnRws w B v L → B ≤ w.heap.size → Calls Tryz.prog 126 #[v, .func (.func 127) #[] #[]] w fun e w' => e = .returned (.tuple #[]) ∧ ∃ M : List Nat, M.Perm L ∧ M.Pairwise (fun a b => pc a ≤ pc b) ∧ OwnRws w' B v M ∧ (Below B w w' ∧ ∀ k, k < w.heap.size → some k ≠ v.ownBlock → w'.heap[k]? = w.heap[k]?)) :
    Calls Tryz.prog 70 #[.pointer (some ⟨gl, 0, none⟩)] W fun e w' => SPost y0 y1 y2 (.func (.func 62) #[] #[.pointer (some ⟨bk, 0, none⟩)]) mv fv gl (overP kk) M F W e w' := by
  have HSORT := Lib.hid hsort
  have HF := Lib.hid hF
  have HFM := Lib.hid (And.intro hF1 hFm)
  have eg2 : ∀ args w, (callFunc 130 args).run Tryz.prog w = .ok (.enter 130 args) w := enters_of Tryz.func130 (by kernel_rfl) rfl
  have EG2 := Lib.hid eg2
  have hgl : gl < W.heap.size := hrow.lt
  clear hsort hF hF1 hFm eg2
  have HROW := Lib.hid hrow
  have HM := Lib.hid hM
  have c3 := hrow.cell (i := 3) (by simp)
  have c5 := hrow.cell (i := 5) (by simp)
  simp only [List.getElem_cons_succ, List.getElem_cons_zero] at c3 c5
  obtain ⟨ma, mc, hmv⟩ := hM.shape
  obtain ⟨n, hn⟩ : ∃ n, n = M.length := ⟨_, rfl⟩
  rw [← hn] at hmv hl
  subst hmv
  have HN := Lib.hid hn
  have HOV := Lib.hid (fun (e : Nat) (W' : World) (hk : Kept W W') (he : Mk e) => over_any kk e bk W' (hk.cell hbk) he)
  clear hrow hM hn hbk
  go_enter Tryz.func70, Tryz.ntmps70
  go_wp2
  go_loopg [3, 4, 14] n (fun kx s3 s4 s14 wr => ∃ (k : Nat) (vi vg : Value), s3 = vi ∧ s4 = vg ∧ s14 = .int .i64 k ∧ k ≤ n ∧ n - k ≤ kx ∧ Hid (OwnRws wr W.heap.size vi (inTo (overP kk) M k)) ∧ Hid (OwnInts wr W.heap.size vg (ofN (goneTo (overP kk) M k))) ∧ Hid (Kept W wr))
  case atStart => exact ⟨0, _, _, rfl, rfl, rfl, Nat.zero_le _, by omega, Lib.hid (by unfold inTo; simpa using OwnRws.nil _ _), Lib.hid (by unfold goneTo; simpa [ofN] using OwnInts.nil _ _), Lib.hid (Kept.refl _)⟩
  case round =>
    obtain ⟨k, vi, vg, rfl, rfl, rfl, hk, hkx, HI, HG, HK⟩ := hrel
    obtain ⟨ia, ic, hvi⟩ := HI.out.at.shape
    obtain ⟨iN, hiN⟩ : ∃ m, m = (inTo (overP kk) M k).length := ⟨_, rfl⟩
    rw [← hiN] at hvi
    subst hvi
    have HIN := Lib.hid hiN
    clear hiN
    obtain ⟨ga, gn, gc, rfl⟩ := HG.out.ints.shape
    have d3 := HK.out.cell c3
    have hszr := HK.out.size
    by_cases hlt : k < n
    · have hkl : k < M.length := by have := HN.out; omega
      obtain ⟨b, o, rfl, hrg⟩ := (HM.out.kept HK.out).get k hkl
      have hrl := HM.out.lt M[k] (List.getElem_mem _)
      have hi1 := inTo_succ (overP kk) M k hkl
      have hg1 := goneTo_succ (overP kk) M k hkl
      have hil := inTo_len (overP kk) M k
      have hgl := goneTo_len (overP kk) M k
      obtain ⟨r, hr⟩ : ∃ r, r = M[k] := ⟨_, rfl⟩
      rw [← hr] at hrg hrl hi1 hg1
      have HOV1 : Hid (∀ W', Kept wr W' → Calls Tryz.prog 62 #[.int .i64 (evW r), .pointer (some ⟨bk, 0, none⟩)] W' fun e w' => e = .returned (.bool (overP kk (evW r))) ∧ Kept W' w') := Lib.hid fun W' hk => HOV.out _ W' (HK.out.trans hk) (evW_lt r)
      have HRG : Hid (wr.rangeAt b (o + k * 3) [.int .i64 (evW r), .int .u64 (loW r), .int .u64 (hiW r)]) := Lib.hid hrg
      have HRC : Hid (rcells r = [.int .i64 (evW r), .int .u64 (loW r), .int .u64 (hiW r)]) := Lib.hid rfl
      have HRL := Lib.hid hrl
      have HI1 := Lib.hid hi1
      have HG1 := Lib.hid hg1
      have HIL : Hid ((inTo (overP kk) M k).length ≤ 4096 ∧ (goneTo (overP kk) M k).length ≤ 4096) := Lib.hid (by rw [← HN.out] at hil hgl; omega)
      have hkn : (k : Int) < (n : Int) := by omega
      generalize evW r = x0 at *
      generalize loW r = x1 at *
      generalize hiW r = x2 at *
      clear hrg hrl hi1 hg1 hil hgl hr
      obtain ⟨bp, hbp⟩ : ∃ bp, bp = overP kk x0 := ⟨_, rfl⟩
      rw [← hbp] at HOV1 HI1 HG1
      clear hbp
      go_wp2_with (with_reducible refine wpList_load_mid rfl 103 _ rfl b (o + k * 3) rfl _ _ HRG.out Tryz.underlying103 rfl (by kernel_rfl) ?_)
      go_cut [24] (fun p24 wx => p24 = .bool bp ∧ Hid (Kept wr wx) ∧ wx.cell? ⟨wr.heap.size, 0, none⟩ = some (.int .i64 x0) ∧ wx.cell? ⟨wr.heap.size, 1, none⟩ = some (.int .u64 x1) ∧ wx.cell? ⟨wr.heap.size, 2, none⟩ = some (.int .u64 x2))
      case first =>
        have e3 := (((Kept.refl wr).alloc (.cells #[.int .i64 x0, .int .u64 x1, .int .u64 x2] 103)).drew).cell d3
        go_region_with (go_at_call 62; (with_reducible refine (HOV1.out _ (((Kept.refl wr).alloc _).drew)).mono ?_); rintro e w3 ⟨rfl, hk3⟩)
        all_goals (go_wp2_with fail; go_meet)
        all_goals exact ⟨rfl, Lib.hid ((((Kept.refl wr).alloc _).drew).trans hk3), hk3.cell ((Kept.refl _).drew.cell (by simp)), hk3.cell ((Kept.refl _).drew.cell (by simp)), hk3.cell ((Kept.refl _).drew.cell (by simp))⟩
      case rest =>
        obtain ⟨rfl, HKX, q0, q1, q2⟩ := hcut
        have hszx := HKX.out.size
        clear d3 HOV1
        cases bp with
        | true =>
          go_wp2_with (at_builtin; refine app_int rfl _ _ rfl W.heap.size _ (ofN (goneTo (overP kk) M k)) rfl (HG.out.kept (HKX.out.alloc _)) _ (x0 : Int) rfl (by simp) (by have := HIL.out; simp [ofN]; omega) (by simp; omega) ?_; intro v7 w7 hown7 hg7 hb7; have O7 := Lib.hid hown7; have HB7 := Lib.hid hb7; have HG7 := Lib.hid hg7; clear hown7 hb7 hg7)
          go_roundg (n - (k + 1))
          case measure => omega
          case rel =>
            refine ⟨k + 1, _, _, rfl, rfl, by go_num, by omega, Nat.le_refl _, Lib.hid ?_, Lib.hid ?_, Lib.hid (Below.trans ((HK.out.trans HKX.out).alloc _) HB7.out)⟩
            · have e := HI1.out; simp at e; rw [e]
              exact (HI.out.kept (HKX.out.alloc _)).tag (HG.out.kept (HKX.out.alloc _)).1 (by decide) HG7.out
            · have e := HG1.out; simp at e; rw [e]
              have := O7.out
              simpa [ofN] using this
        | false =>
          go_wp2_with ((at_builtin; refine app_row1 rfl _ _ rfl W.heap.size _ (inTo (overP kk) M k) rfl (HI.out.kept (HKX.out.alloc _)) wc.heap.size r rfl (by rw [HRC.out]; exact range_row _ _ _ _ _) HRL.out (by have := HIL.out; omega) (by simp; omega) ?_; intro v7 w7 hown7 hg7 hb7; have O7 := Lib.hid hown7; have HB7 := Lib.hid hb7; have HG7 := Lib.hid hg7; clear hown7 hb7 hg7))
          go_roundg (n - (k + 1))
          case measure => omega
          case rel =>
            refine ⟨k + 1, _, _, rfl, rfl, by go_num, by omega, Nat.le_refl _, Lib.hid ?_, Lib.hid ?_, Lib.hid (Below.trans ((HK.out.trans HKX.out).alloc _) HB7.out)⟩
            · have e := HI1.out; simp at e; rw [e]
              exact O7.out
            · have e := HG1.out; simp at e; rw [e]
              exact ints_tag (HG.out.kept (HKX.out.alloc _)) (HI.out.kept (HKX.out.alloc _)).1 (by decide) HG7.out
    · have hke : k = n := by omega
      have HI1 : Hid (OwnRws wr W.heap.size (.slice ia iN ic) (M.filter fun r => !overP kk (evW r))) := Lib.hid (by have h := HI.out; unfold inTo at h; rw [hke, HN.out, List.take_length] at h; exact h)
      have HG1 : Hid (OwnInts wr W.heap.size (.slice ga gn gc) (ofN ((M.filter fun r => overP kk (evW r)).map evW))) := Lib.hid (by have h := HG.out; unfold goneTo at h; rw [hke, HN.out, List.take_length] at h; exact h)
      clear HI HG hke
      obtain ⟨L1, hL1⟩ : ∃ L1, L1 = M.filter fun r => !overP kk (evW r) := ⟨_, rfl⟩
      rw [← hL1] at HI1
      obtain ⟨G1, hG1⟩ : ∃ G1, G1 = (M.filter fun r => overP kk (evW r)).map evW := ⟨_, rfl⟩
      rw [← hG1] at HG1
      have HL1 := Lib.hid hL1
      have HGG := Lib.hid hG1
      have HS := Lib.hid (HSORT.out W.heap.size _ L1 wr HI1.out hszr)
      clear hL1 hG1 d3
      go_wp2_with fail
      refine HS.out.mono ?_
      rintro e w2 ⟨rfl, L2, hperm, hpair, ho2, hb2, hne2⟩
      have hg2 := sort_ints HG1.out HI1.out hne2
      have HG2 := Lib.hid hg2
      clear hne2 hg2
      have hk2 : Kept W w2 := HK.out.app hb2
      have HK2 := Lib.hid hk2
      have HPM : Hid (L2.Perm L1 ∧ L2.Pairwise (fun a b => pc a ≤ pc b)) := ⟨hperm, hpair⟩
      have HO2 := Lib.hid ho2
      have HB2 := Lib.hid hb2
      have hr2 := HROW.out.kept hk2
      have HR2 := Lib.hid hr2
      have f4 := hr2.free 4
      have d4 := hr2.cell (i := 4) (by simp)
      simp only [List.getElem_cons_succ, List.getElem_cons_zero] at d4
      clear hperm hpair ho2 hb2 hk2 hr2
      go_wp2
      obtain ⟨w3, hw3⟩ : ∃ w3, w3 = w2.setCell ⟨gl, 4, none⟩ (.slice none 0 0) := ⟨_, rfl⟩
      rw [← hw3]
      have HF3 : Hid (Frm gl (.slice none 0 0) (.slice none 0 0) W w3) := Lib.hid (by rw [hw3]; exact frm_store HK2.out 4 _)
      have HR3 : Hid (RowAt w3 gl 101 [y0, y1, y2, .func (.func 62) #[] #[.pointer (some ⟨bk, 0, none⟩)], .slice none 0 0, .slice ma n mc, fv]) := Lib.hid (by rw [hw3]; have := HR2.out.store 4 (.slice none 0 0); simpa using this)
      have HO3 : Hid (OwnRws w3 W.heap.size (.slice ia iN ic) L2) := Lib.hid (by rw [hw3]; exact rws_frm HO2.out hgl (frm_store (Kept.refl _) 4 _))
      have HG3 : Hid (OwnInts w3 W.heap.size (.slice ga gn gc) (ofN G1)) := Lib.hid (by rw [hw3]; exact ints_frm HG2.out hgl (frm_store (Kept.refl _) 4 _))
      have HV3 : Hid (OwnInts w3 B fv (ofN F)) := Lib.hid (ints_frm HF.out hgB HF3.out)
      have hsz3 := HF3.out.size
      clear hw3 HI1 HG1 HR2 HO2 HB2 HG2 HK2 HK f4 d4
      have hL2 : L2.length = iN := by have := HO3.out.at; obtain ⟨_, _, h, _⟩ := this; injection h with _ h _; exact h.symm
      have HL2 := Lib.hid hL2
      clear hL2
      go_loopg [42] iN (fun kx s42 wq => ∃ (j : Nat) (vo : Value), s42 = .int .i64 j ∧ j ≤ iN ∧ iN - j ≤ kx ∧ Hid (CutR y0 y1 y2 (.func (.func 62) #[] #[.pointer (some ⟨bk, 0, none⟩)]) (.slice ma n mc) fv wq gl w3.heap.size vo (minN (L2.take j))) ∧ Hid (Frm gl (.slice none 0 0) vo w3 wq))
      case atStart => exact ⟨0, _, rfl, Nat.zero_le _, by omega, Lib.hid ⟨HR3.out, OwnRws.nil _ _⟩, Lib.hid (Frm.of_kept (Kept.refl _))⟩
      case round =>
        obtain ⟨j, vo, rfl, hj, hjx, HC2, HFQ⟩ := hrel
        have hszq := HFQ.out.size
        obtain ⟨ao, co, hvo⟩ := HC2.out.2.at.shape
        obtain ⟨mo, hmo⟩ : ∃ mo, mo = (minN (L2.take j)).length := ⟨_, rfl⟩
        rw [← hmo] at hvo
        subst hvo
        by_cases hlt2 : j < iN
        · have hjl : j < L2.length := by have := HL2.out; omega
          have hmo9 : mo ≤ j := by rw [hmo]; refine Nat.le_trans (len_minN _ []) ?_; simp; omega
          obtain ⟨b, o, rfl, hrg⟩ := (rws_frm HO3.out hgl HFQ.out).at.get j hjl
          have hxl := HO3.out.2.2 L2[j] (List.getElem_mem _)
          have hstep := minN_take L2 j hjl
          have hin : iN ≤ 4096 := by rw [← HL2.out, HPM.out.1.length_eq, HL1.out]; exact Nat.le_trans (List.length_filter_le ..) (by rw [← HN.out]; exact hl)
          obtain ⟨x, hxx⟩ : ∃ x, x = L2[j] := ⟨_, rfl⟩
          rw [← hxx] at hrg hxl hstep
          obtain ⟨out, hout⟩ : ∃ out, out = minN (L2.take j) := ⟨_, rfl⟩
          rw [← hout] at hstep HC2 hmo
          have HST := Lib.hid hstep
          have HXL := Lib.hid hxl
          have d4 := HC2.out.1.cell (i := 4) (by simp)
          simp only [List.getElem_cons_succ, List.getElem_cons_zero] at d4
          have hglq := HC2.out.1.lt
          have HNE := Lib.hid (list_apart HC2.out.2 HC2.out.1)
          have HHAS : Hid (∀ W, Kept wr W → W.cell? ⟨wr.heap.size, 0, none⟩ = some (.int .i64 (evW x)) → W.cell? ⟨wr.heap.size, 1, none⟩ = some (.int .u64 (loW x)) → W.cell? ⟨wr.heap.size, 2, none⟩ = some (.int .u64 (hiW x)) →
            Calls Tryz.prog 129 #[.slice ao mo co, .func (.func 130) #[] #[.pointer (some ⟨wr.heap.size, 0, none⟩)]] W fun e w' => e = .returned (.bool (out.any fun t => subN t x)) ∧ Kept W w') := Lib.hid fun W hk h0 h1 h2 =>
              hasR_any 130 #[.pointer (some ⟨wr.heap.size, 0, none⟩)] EG2.out (fun t => subN t x) _ out W (decides_part x wr.heap.size W hxl h0 h1 h2) ((HC2.out.2.kept hk).at)
          have HRC : Hid (rcells x = [.int .i64 (evW x), .int .u64 (loW x), .int .u64 (hiW x)]) := rfl
          unfold rcells at hrg
          generalize evW x = z0 at *
          generalize loW x = z1 at *
          generalize hiW x = z2 at *
          have HRG := Lib.hid hrg
          have HMO := Lib.hid hmo
          have HXX := Lib.hid hxx
          have hkn : (j : Int) < (iN : Int) := by omega
          clear hrg hxl hstep hxx hout hmo
          cases hq : out.any (fun t => subN t x) with
          | true =>
            have HQ := Lib.hid hq
            rw [hq] at HHAS
            clear hq
            go_wp2_with (first | (with_reducible refine wpList_load_mid rfl 103 _ rfl b (o + j * 3) rfl _ _ HRG.out Tryz.underlying103 rfl (by kernel_rfl) ?_) | (go_at_call 129; refine (HHAS.out _ ((Kept.refl _).alloc _) (by simp) (by simp) (by simp)).mono ?_; rintro e w4 ⟨rfl, hk4⟩))
            go_roundg (iN - (j + 1))
            case measure => omega
            case rel =>
              have hk5 : Kept wr w4 := ((Kept.refl _).alloc _).trans hk4
              exact ⟨j + 1, _, by go_num, by omega, Nat.le_refl _, Lib.hid (by rw [HST.out, keepN, HQ.out]; exact ⟨HC2.out.1.kept hk5, HC2.out.2.kept hk5⟩), Lib.hid (HFQ.out.trans (Frm.of_kept hk5))⟩
          | false =>
            have HQ := Lib.hid hq
            rw [hq] at HHAS
            clear hq
            obtain ⟨i0, hi0, hz0, hz1, hz2⟩ := info_parts info_trow
            have I0 := Lib.hid hi0
            have I1 := Lib.hid hz0
            have I2 := Lib.hid hz1
            have I3 := Lib.hid hz2
            clear hi0 hz0 hz1 hz2
            go_wp2_with (first | (with_reducible refine wpList_load_mid rfl 103 _ rfl b (o + j * 3) rfl _ _ HRG.out Tryz.underlying103 rfl (by kernel_rfl) ?_) | (go_at_call 129; refine (HHAS.out _ ((Kept.refl _).alloc _) (by simp) (by simp) (by simp)).mono ?_; rintro e w4 ⟨rfl, hk4⟩; have b0 := hk4.cell (p := ⟨wr.heap.size, 0, none⟩) (v := .int .i64 z0) (by simp); have b1 := hk4.cell (p := ⟨wr.heap.size, 1, none⟩) (v := .int .u64 z1) (by simp); have b2 := hk4.cell (p := ⟨wr.heap.size, 2, none⟩) (v := .int .u64 z2) (by simp); have hk5 : Kept wr w4 := ((Kept.refl _).alloc _).trans hk4; have HK5 := Lib.hid hk5; have hs5 := hk5.size; have hsz4 := hk4.size; have HR4 := Lib.hid (HC2.out.1.kept hk5); have HV4 := Lib.hid (HC2.out.2.kept hk5); have d4' := hk5.cell d4; clear hk4 hk5))
            have cA0 := ((Kept.refl w4).drew).cell b0
            have cA1 := ((Kept.refl w4).drew).cell b1
            have cA2 := ((Kept.refl w4).drew).cell b2
            have cA4 := ((Kept.refl w4).drew).cell d4'
            have cB : ∀ O, ((w4.alloc O).drew).cell? ⟨gl, 4, none⟩ = some (.slice ao mo co) := fun O => (((Kept.refl w4).alloc O).drew).cell d4'
            have HO2 : Hid (∀ O, ((w4.alloc O).drew).ownsRow w3.heap.size 103 3 (.slice ao mo co) mo (out.flatMap rcells)) := Lib.hid fun O => by
              have h := (HV4.out.kept (((Kept.refl w4).alloc O).drew)).1
              rw [← HMO.out] at h; exact h
            have f0 := HR4.out.free 4
            have hgl4 : gl < w4.heap.size := HR4.out.lt
            go_region_law ((refine step_append_lies _ (by rfl) _ _ _ (by rfl) w3.heap.size 103 i0 _ 3 24 Tryz.underlying99 I0.out I1.out I2.out I3.out rfl (by omega) (.slice ao mo co) mo _ (by rfl) (HO2.out _) ⟨w4.heap.size, 0, none⟩ 1 1 [.int .i64 z0, .int .u64 z1, .int .u64 z2] (by rfl) (by rfl) (World.news_of_block (cs := #[.int .i64 z0, .int .u64 z1, .int .u64 z2]) (t := 103) (fr := (0, 0)) (heap_new1d w4 _)) (by simp [Value.oneCell']) (by omega) (by unfold maxLen; omega) (by omega) (by simp at hsz4 ⊢; omega) (w4.heap.size + 1) (by simp) ?_; intro gg cap w5 hown5 hgrow hat hlt5; have st5 := hgrow.cell (a := ⟨gl, 4, none⟩) (v := .slice ao mo co) (cB _) HNE.out; have sf5 := (World.frozen?_of_block (a := ⟨gl, 4, none⟩) (hgrow.block gl (by simp; omega) HNE.out)).trans ((Below.frozen (((Kept.refl w4).alloc _).drew) (p := ⟨gl, 4, none⟩) (by simp; omega)).trans f0)))
            all_goals go_wp2
            all_goals
              have hs := settle_step HR4.out HV4.out (by simp at hsz4; omega) HXL.out (by have := HMO.out; omega) HMO.out (c := x) (by rw [HRC.out]; exact hown5) hgrow hat
              have HS5 := Lib.hid hs
              clear hs
              go_roundg (iN - (j + 1))
              case measure => omega
              case rel => exact ⟨j + 1, _, by go_num, by omega, Nat.le_refl _, Lib.hid (by rw [HST.out, keepN, HQ.out]; exact HS5.out.1), Lib.hid ((HFQ.out.trans (Frm.of_kept HK5.out)).trans HS5.out.2)⟩
        · have hje : j = iN := by omega
          have HC3 : Hid (CutR y0 y1 y2 (.func (.func 62) #[] #[.pointer (some ⟨bk, 0, none⟩)]) (.slice ma n mc) fv wr gl w3.heap.size (.slice ao mo co) (minN L2)) := Lib.hid (by have h := HC2.out; rw [hje, ← HL2.out, List.take_length] at h; exact h)
          have hmo2 : mo = (minN L2).length := by rw [hmo, hje, ← HL2.out, List.take_length]
          have HMR : Hid ((minN L2).Perm (settleR (overP kk) M)) := Lib.hid (by unfold settleR; rw [← HL1.out]; exact least_perm HPM.out.1 HPM.out.2)
          have hmo3 : mo = (settleR (overP kk) M).length := hmo2.trans HMR.out.length_eq
          have d4 := HC3.out.1.cell (i := 4) (by simp)
          have d6 := HC3.out.1.cell (i := 6) (by simp)
          simp only [List.getElem_cons_succ, List.getElem_cons_zero] at d4 d6
          have HMO := Lib.hid hmo3
          clear hmo hmo2 hmo3 hje HC2
          by_cases hbig : 1024 < mo
          · have hb' : (mo : Int) > 1024 := by omega
            go_wp2
            go_ret
            unfold SPost
            rw [if_pos (.inl (by rw [← HMO.out]; exact hbig))]
            exact ⟨rfl, frm_low (HF3.out.trans HFQ.out) hgl (by simp [Value.ownBlock])⟩
          · have hb' : ¬ (mo : Int) > 1024 := by omega
            have HSF : Hid (settleF (overP kk) M F = minK (F ++ G1)) := Lib.hid (by unfold settleF; rw [HGG.out])
            have hgn : G1.length ≤ 4096 := by rw [HGG.out, List.length_map]; exact Nat.le_trans (List.length_filter_le ..) (by rw [← HN.out]; exact hl)
            have HGN := Lib.hid hgn
            have HMK : Hid (∀ t ∈ F ++ G1, Mk t) := Lib.hid fun t ht => by
              rcases List.mem_append.1 ht with h | h
              · exact HFM.out.2 t h
              · rw [HGG.out] at h
                obtain ⟨r, _, rfl⟩ := List.mem_map.1 h
                exact evW_lt r
            have HVQ := Lib.hid (ints_frm HV3.out hgB HFQ.out)
            have HGQ := Lib.hid (ints_frm HG3.out hgl HFQ.out)
            have hBq : B ≤ wr.heap.size := by omega
            obtain ⟨SF, hSF⟩ : ∃ SF, SF = minK (F ++ G1) := ⟨_, rfl⟩
            have HSF2 := Lib.hid hSF
            clear hgn hSF
            have hHR : ∀ w8, (∀ k, k < wr.heap.size → some k ≠ fv.ownBlock → w8.heap[k]? = wr.heap[k]?) → RowAt w8 gl 101 [y0, y1, y2, .func (.func 62) #[] #[.pointer (some ⟨bk, 0, none⟩)], .slice ao mo co, .slice ma n mc, fv] := fun w8 h8 =>
              HC3.out.1.same (h8 gl HC3.out.1.lt fun e => by have := (HVQ.out.1.lt gl e.symm).1; omega)
            have HHR := Lib.hid hHR
            clear hHR
            go_wp2_with (first | (at_builtin; refine app_ints rfl _ _ rfl B _ (ofN F) rfl HVQ.out _ (ofN G1) rfl HGQ.out.ints (by have := HFM.out.1; have := HGN.out; simp [ofN]; omega) hBq ?_; intro v8 w8 hown8 hne8 hb8; have HR8 := Lib.hid (HHR.out w8 hne8); have HO8 := Lib.hid hown8; have HNE8 := Lib.hid hne8; have HB8 := Lib.hid hb8; clear hown8 hne8 hb8) | (go_at_call 75; refine (tminimal_any v8 (F ++ G1) w8 HMK.out (by have h := HO8.out.ints; simpa [ofN] using h) (by have := HFM.out.1; have := HGN.out; simp; omega)).mono ?_; rintro e w9 ⟨v9, rfl, hs9, hk9⟩; have HS9 := Lib.hid hs9; have HK9 := Lib.hid hk9; have hr9 := HR8.out.kept hk9; have f9 := hr9.free 6; have e9 := hr9.cell (i := 6) (by simp); have g9 := hr9.lt; have HR9 := Lib.hid hr9; obtain ⟨a9, c9, hv9, _⟩ := hs9.1.ints; obtain ⟨n9, hn9⟩ : ∃ n9, n9 = (ofN (minK (F ++ G1))).length := ⟨_, rfl⟩; rw [← hn9] at hv9; subst hv9; have HN9 := Lib.hid hn9; simp only [List.getElem_cons_succ, List.getElem_cons_zero] at e9; clear hs9 hk9 hr9 hn9))
            all_goals
              have HFR9 : Hid (Frm gl fv (.slice a9 n9 c9) W (w9.setCell ⟨gl, 6, none⟩ (.slice a9 n9 c9))) := Lib.hid (by
                have h3 : Below 0 w9 (w9.setCell ⟨gl, 6, none⟩ (.slice a9 n9 c9)) := Below.setCell (Below.refl _ _) (Nat.zero_le _) _
                have hb8 := HB8.out
                have hk9 := HK9.out
                have hs8 := hb8.size
                have hf := HF3.out.trans HFQ.out
                refine ⟨h3.os.trans (hk9.os.trans (hb8.os.trans hf.os)), h3.tape.trans (hk9.tape.trans (hb8.tape.trans hf.tape)), h3.output.trans (hk9.output.trans (hb8.output.trans hf.output)), Nat.le_trans hf.size (Nat.le_trans hs8 (Nat.le_trans hk9.size h3.size)), fun k hk e1 e2 => ?_, .inr fun g hg => ?_⟩
                · have hkr : k < wr.heap.size := Nat.lt_of_lt_of_le hk hf.size
                  exact (Below.heap_setCell w9 ⟨gl, 6, none⟩ _ k e1).trans ((hk9.block k (by omega)).trans ((HNE8.out k hkr e2).trans (hf.block k hk e1 (by simp [Value.ownBlock]))))
                · have := (HS9.out.1.1.lt g hg).1
                  have := hf.size
                  omega)
              have hnl : n9 = (settleF (overP kk) M F).length := by rw [HSF.out, HN9.out]; simp [ofN]
              have hs8 := HB8.out.size
              have HRW : Hid (OwnRws (w9.setCell ⟨gl, 6, none⟩ (.slice a9 n9 c9)) W.heap.size (.slice ao mo co) (minN L2)) := Lib.hid (by
                have h1 : OwnRws w8 w3.heap.size (.slice ao mo co) (minN L2) := ⟨own_tag HC3.out.2.1 HVQ.out.1 (by decide) HNE8.out, HC3.out.2.2⟩
                exact (rws_frm (h1.kept HK9.out) (by omega) (frm_store (Kept.refl _) 6 _)).mono hsz3)
              have HFW : Hid (OwnInts (w9.setCell ⟨gl, 6, none⟩ (.slice a9 n9 c9)) W.heap.size (.slice a9 n9 c9) (ofN (settleF (overP kk) M F))) := Lib.hid (by
                rw [HSF.out]
                exact (ints_frm HS9.out.1 (by omega) (frm_store (Kept.refl _) 6 _)).mono (by omega))
              have HRF : Hid (RowAt (w9.setCell ⟨gl, 6, none⟩ (.slice a9 n9 c9)) gl 101 [y0, y1, y2, .func (.func 62) #[] #[.pointer (some ⟨bk, 0, none⟩)], .slice ao mo co, .slice ma n mc, .slice a9 n9 c9]) := Lib.hid (by
                have := HR9.out.store 6 (.slice a9 n9 c9)
                simpa using this)
              go_ret
              unfold SPost
              by_cases hbF : 1024 < n9
              · rw [if_pos (.inr (by rw [← hnl]; exact hbF))]
                first
                  | exact ⟨rfl, frm_low HFR9.out hgl (fun g hg => by have := (HVQ.out.1.lt g hg).1; omega)⟩
                  | (exfalso; omega)
              · rw [if_neg (by rw [← hnl, ← HMO.out]; omega)]
                first
                  | exact ⟨rfl, _, _, minN L2, HMR.out, HRF.out, HRW.out, HFW.out, HFR9.out⟩
                  | (exfalso; omega)
end Go.Proofs.YteodabnjkikogaaGreat.Tr

/-
  Walks over a program that is a variable: swapRange and rotate of slices.SortStableFunc at the rows of truncate.
-/
namespace Go.Proofs.YteodabnjkikogaaGreat.Tr
open Go.Shelf Go.RowKit Go.Lib Go.Sort

/-- What the walks want of the program. -/
structure StL (P : Program) (k : Nat) : Prop where
  mixed : P.follows .mixedOrders = true
  g148 : P.funcs[206]? = some Tryz.f206
  g147 : P.funcs[204]? = some Tryz.f204
  g145 : P.funcs[200]? = some Tryz.f200
  t0 : P.underlying 0 = some (TypeDesc.tuple #[])
  a0 : ∀ (w : World), Sem.run P (isAgg 0) w = Result.ok false w
  z0 : ∀ (w : World), Sem.run P (Go.sizeOf 0) w = Result.ok 1 w
  v0 : ∀ (w : World), Sem.run P (zeroValue 0) w = Result.ok (Value.tuple #[]) w
  t3 : P.underlying 3 = some (TypeDesc.int IntKind.i64)
  a3 : ∀ (w : World), Sem.run P (isAgg 3) w = Result.ok false w
  z3 : ∀ (w : World), Sem.run P (Go.sizeOf 3) w = Result.ok 1 w
  v3 : ∀ (w : World), Sem.run P (zeroValue 3) w = Result.ok (Value.int IntKind.i64 0) w
  t4 : P.underlying 4 = some TypeDesc.bool
  a4 : ∀ (w : World), Sem.run P (isAgg 4) w = Result.ok false w
  z4 : ∀ (w : World), Sem.run P (Go.sizeOf 4) w = Result.ok 1 w
  v4 : ∀ (w : World), Sem.run P (zeroValue 4) w = Result.ok (Value.bool false) w
  tu : P.underlying 122 = some (TypeDesc.int IntKind.u64)
  au : ∀ (w : World), Sem.run P (isAgg 122) w = Result.ok false w
  zu : ∀ (w : World), Sem.run P (Go.sizeOf 122) w = Result.ok 1 w
  vu : ∀ (w : World), Sem.run P (zeroValue 122) w = Result.ok (Value.int IntKind.u64 0) w
  t22 : P.underlying 99 = some (TypeDesc.slice 103)
  a22 : ∀ (w : World), Sem.run P (isAgg 99) w = Result.ok false w
  z22 : ∀ (w : World), Sem.run P (Go.sizeOf 99) w = Result.ok 1 w
  v22 : ∀ (w : World), Sem.run P (zeroValue 99) w = Result.ok (Value.slice none 0 0) w
  t25 : P.underlying 152 = some (TypeDesc.func #[103, 103] #[3] false)
  a25 : ∀ (w : World), Sem.run P (isAgg 152) w = Result.ok false w
  z25 : ∀ (w : World), Sem.run P (Go.sizeOf 152) w = Result.ok 1 w
  v25 : ∀ (w : World), Sem.run P (zeroValue 152) w = Result.ok Value.nilFunc w
  aE : ∀ (w : World), Sem.run P (isAgg 103) w = Result.ok true w
  zE : ∀ (w : World), Sem.run P (Go.sizeOf 103) w = Result.ok k w
theorem stL : StL Tryz.prog 3 where
  mixed := by kernel_rfl
  g148 := Tryz.func206
  g147 := Tryz.func204
  g145 := Tryz.func200
  t0 := Tryz.underlying0
  a0 := Tryz.isAgg0
  z0 := Tryz.sizeOf0
  v0 := Tryz.zeroValue0
  t3 := Tryz.underlying3
  a3 := Tryz.isAgg3
  z3 := Tryz.sizeOf3
  v3 := Tryz.zeroValue3
  t4 := Tryz.underlying4
  a4 := Tryz.isAgg4
  z4 := Tryz.sizeOf4
  v4 := Tryz.zeroValue4
  tu := Tryz.underlying122
  au := Tryz.isAgg122
  zu := Tryz.sizeOf122
  vu := Tryz.zeroValue122
  t22 := Tryz.underlying99
  a22 := Tryz.isAgg99
  z22 := Tryz.sizeOf99
  v22 := Tryz.zeroValue99
  t25 := Tryz.underlying152
  a25 := Tryz.isAgg152
  z25 := Tryz.sizeOf152
  v25 := Tryz.zeroValue152
  aE := Tryz.isAgg103
  zE := Tryz.sizeOf103
section
variable {P : Program} {α : Type} [Inhabited α]
set_option maxHeartbeats 4000000 in
set_option maxRecDepth 1000000 in
theorem swapRange_o (k : Nat) (L : StL P k) (enc : α → List Value) (g : Nat) (cb : Array Value) (blk off cap a b n : Nat) (d0 d : Array α) (w0 w : World)
    (R : RowK enc k w0 blk off d0) (hs : d0.size = d.size) (S : SWK enc k w0 blk off d w) (hab : a + n ≤ b) (hb : b + n ≤ d.size) (hsz : d.size < 4611686018427387904) :
    Calls P 206 #[.slice (some ⟨blk, off, none⟩) d.size cap, .int .i64 a, .int .i64 b, .int .i64 n, .func (.func g) #[] cb] w fun e w' => e = .returned (.tuple #[]) ∧ ∃ dn, Swd a b n d dn ∧ SWK enc k w0 blk off dn w' := by
  have mixed := L.mixed; have t0 := L.t0; have a0 := L.a0; have z0 := L.z0; have v0 := L.v0; have t3 := L.t3; have a3 := L.a3; have z3 := L.z3; have v3 := L.v3; have t4 := L.t4; have a4 := L.a4; have z4 := L.z4; have v4 := L.v4; have t22 := L.t22; have a22 := L.a22; have z22 := L.z22; have v22 := L.v22; have t25 := L.t25; have a25 := L.a25; have z25 := L.z25; have v25 := L.v25; have aE := L.aE; have zE := L.zE
  have FG := L.g148
  have S0 : Aside (SWK enc k w0 blk off d w) := S
  clear S L
  go_enter FG, Tryz.ntmps206
  go_wp2
  go_loopg [10] n (fun kx s10 wr => ∃ (q : Nat) (dk : Array α), s10 = .int .i64 q ∧ q ≤ n ∧ n - q ≤ kx ∧ dk.size = d.size ∧ Aside (SWK enc k w0 blk off dk wr) ∧ Hid (Swd a b q d dk))
  case atStart => exact ⟨0, d, rfl, Nat.zero_le _, by omega, rfl, S0, Lib.hid (Swd.start a b d)⟩
  case round =>
    clear S0
    obtain ⟨q, dk, rfl, hq, hkx, hds, S1, HW⟩ := hrel
    by_cases hlt : q < n
    · have hltz : (q : Int) < (n : Int) := by omega
      go_wp2_with fail
      have wa : IntKind.i64.wrap ((a : Int) + (q : Int)) = ((a + q : Nat) : Int) := by rw [IntKind.wrap_i64]; omega
      have wa' : (a : Int) + (q : Int) = ((a + q : Nat) : Int) := by omega
      have wb : IntKind.i64.wrap ((b : Int) + (q : Int)) = ((b + q : Nat) : Int) := by rw [IntKind.wrap_i64]; omega
      have wb' : (b : Int) + (q : Int) = ((b + q : Nat) : Int) := by omega
      obtain ⟨x, hx⟩ : ∃ x, x = a + q := ⟨_, rfl⟩
      obtain ⟨y, hy⟩ : ∃ y, y = b + q := ⟨_, rfl⟩
      have HXY : Hid (x = a + q ∧ y = b + q) := ⟨hx, hy⟩
      rw [← hx] at wa wa'
      rw [← hy] at wb wb'
      have hxs : x < d.size := by omega
      have hys : y < d.size := by omega
      clear hx hy
      have ea44 : ((x : Int)).toNat = x := by omega
      have pa44 : (0 : Int) ≤ (x : Int) := by omega
      have ba44 : (x : Int) < (d.size : Int) := by omega
      have ec44 : ((y : Int)).toNat = y := by omega
      have pc44 : (0 : Int) ≤ (y : Int) := by omega
      have bc44 : (y : Int) < (d.size : Int) := by omega
      have S2 : Aside (SWK enc k w0 blk off (swp dk x y) ((wr.drew.setCells blk (off + x * k) (enc dk[y]!)).setCells blk (off + y * k) (enc dk[x]!))) := S1.out.swapped R x y (by omega) (by omega)
      have l44a := S1.out.ld1 R (by omega) P x (by omega)
      have l44b := S1.out.ld1 R (by omega) P y (by omega)
      have s44a := S1.out.st1 R (by omega) P x (by omega) dk[y]!
      have s44b := S1.out.st2 R (by omega) P x y (by omega) (by omega) dk[y]! dk[x]!
      have n44a : (enc dk[x]!).length = k := R.hk _
      have n44b : (enc dk[y]!).length = k := R.hk _
      generalize enc dk[x]! = cI44 at S2 l44a s44b n44a
      generalize enc dk[y]! = cJ44 at S2 l44b s44a s44b n44b
      clear S1
      go_big_region_o
      clear l44a l44b s44a s44b
      generalize (wr.drew.setCells blk (off + x * k) cJ44).setCells blk (off + y * k) cI44 = w2 at S2 ⊢
      go_wp2
      go_roundg (n - (q + 1))
      case measure => omega
      case rel => exact ⟨q + 1, swp dk x y, by go_num, by omega, Nat.le_refl _, by rw [Go.Sort.size_swp]; exact hds, S2, by rw [HXY.out.1, HXY.out.2]; exact Lib.hid (HW.out.step (by omega) (by omega))⟩
    · have hltz : ¬ (q : Int) < (n : Int) := by omega
      have hke : q = n := by omega
      subst hke
      go_wp2
      go_end0
      exact ⟨rfl, dk, HW.out, S1.out⟩
set_option maxHeartbeats 4000000 in
set_option maxRecDepth 1000000 in
theorem rotate_o (k : Nat) (L : StL P k) (enc : α → List Value) (g : Nat) (cb : Array Value) (blk off cap a m b : Nat) (d0 d : Array α) (w0 w : World)
    (R : RowK enc k w0 blk off d0) (hs : d0.size = d.size) (S : SWK enc k w0 blk off d w) (ham : a < m) (hmb : m < b) (hb : b ≤ d.size) (hsz : d.size < 4611686018427387904) :
    Calls P 204 #[.slice (some ⟨blk, off, none⟩) d.size cap, .int .i64 a, .int .i64 m, .int .i64 b, .func (.func g) #[] cb] w fun e w' => e = .returned (.tuple #[]) ∧ ∃ dn, Rot a m b d dn ∧ SWK enc k w0 blk off dn w' := by
  have t0 := L.t0; have a0 := L.a0; have z0 := L.z0; have v0 := L.v0; have t3 := L.t3; have a3 := L.a3; have z3 := L.z3; have v3 := L.v3; have t4 := L.t4; have a4 := L.a4; have z4 := L.z4; have v4 := L.v4; have t22 := L.t22; have a22 := L.a22; have z22 := L.z22; have v22 := L.v22; have t25 := L.t25; have a25 := L.a25; have z25 := L.z25; have v25 := L.v25
  have FG := L.g147
  have e148 : ∀ args w, (callFunc 206 args).run P w = .ok (.enter 206 args) w := enters_of L.g148 (by kernel_rfl) rfl
  have HSW : Hid (∀ (a b n : Nat) (dk : Array α) (wr : World), d0.size = dk.size → SWK enc k w0 blk off dk wr → a + n ≤ b → b + n ≤ dk.size → dk.size < 4611686018427387904 →
    Calls P 206 #[.slice (some ⟨blk, off, none⟩) dk.size cap, .int .i64 a, .int .i64 b, .int .i64 n, .func (.func g) #[] cb] wr fun e w' => e = .returned (.tuple #[]) ∧ ∃ dn, Swd a b n dk dn ∧ SWK enc k w0 blk off dn w') :=
    Lib.hid fun a b n dk wr h1 h2 h3 h4 h5 => swapRange_o k L enc g cb blk off cap a b n d0 dk w0 wr R h1 h2 h3 h4 h5
  have S0 : Aside (SWK enc k w0 blk off d w) := S
  clear S L
  have wi : IntKind.i64.wrap ((m : Int) - (a : Int)) = ((m - a : Nat) : Int) := by rw [IntKind.wrap_i64]; omega
  have wi' : (m : Int) - (a : Int) = ((m - a : Nat) : Int) := by omega
  have wj : IntKind.i64.wrap ((b : Int) - (m : Int)) = ((b - m : Nat) : Int) := by rw [IntKind.wrap_i64]; omega
  have wj' : (b : Int) - (m : Int) = ((b - m : Nat) : Int) := by omega
  go_enter FG, Tryz.ntmps204
  go_wp2
  clear wi wi' wj wj'
  go_loopg [10, 11] (b - a) (fun kx s10 s11 wr => ∃ (i j : Nat) (dk : Array α), s10 = .int .i64 i ∧ s11 = .int .i64 j ∧ 0 < i ∧ 0 < j ∧ i + j ≤ kx ∧ dk.size = d.size ∧ Aside (SWK enc k w0 blk off dk wr) ∧ Hid (RotTo a m b d i j dk))
  case atStart => exact ⟨m - a, b - m, d, rfl, rfl, by omega, by omega, by omega, rfl, S0, Lib.hid (RotTo.start d (by omega) (by omega))⟩
  case round =>
    clear S0
    obtain ⟨i, j, dk, rfl, rfl, hi, hj, hkx, hds, S1, HW⟩ := hrel
    have hb3 := HW.out.2.2.1
    have hb4 := HW.out.2.2.2.1
    have hb5 := HW.out.2.2.2.2
    rcases Nat.lt_trichotomy i j with hlt | heq | hgt
    · have q1 : ((i : Int) == (j : Int)) = false := by simp; omega
      have q2 : ¬ (j : Int) < (i : Int) := by omega
      have q3 : ((i : Int) != (j : Int)) = true := by simp; omega
      obtain ⟨p1, hp1⟩ : ∃ x, x = m - i := ⟨_, rfl⟩
      obtain ⟨p2, hp2⟩ : ∃ x, x = m + j := ⟨_, rfl⟩
      obtain ⟨p3, hp3⟩ : ∃ x, x = m + j - i := ⟨_, rfl⟩
      obtain ⟨p4, hp4⟩ : ∃ x, x = j - i := ⟨_, rfl⟩
      have u1 : IntKind.i64.wrap ((m : Int) - (i : Int)) = (p1 : Int) := by rw [IntKind.wrap_i64]; omega
      have u1' : (m : Int) - (i : Int) = (p1 : Int) := by omega
      have u2' : (m : Int) + (j : Int) = (p2 : Int) := by omega
      have u3' : (p2 : Int) - (i : Int) = (p3 : Int) := by omega
      have u4 : IntKind.i64.wrap ((j : Int) - (i : Int)) = (p4 : Int) := by rw [IntKind.wrap_i64]; omega
      have u4' : (j : Int) - (i : Int) = (p4 : Int) := by omega
      have hc := HSW.out (m - i) (m + j - i) i dk wr (by omega) S1.out (by omega) (by omega) (by omega)
      have HN := Lib.hid (fun dn h => HW.out.left hb hlt (dn := dn) h)
      rw [hds, ← hp1, ← hp3] at hc
      rw [← hp1, ← hp3, ← hp4] at HN
      have HC := Lib.hid hc
      have hp4' : 0 < p4 := by omega
      have hpm : p4 < j := by omega
      have b2 : (p2 : Int) < 4611686018427387904 := by omega
      have b3 : (p3 : Int) < 4611686018427387904 := by omega
      clear hb3 hb4 hb5 hc hp1 hp2 hp3 hp4 S1 hds HW
      go_wp2_with (go_at_fn 206; refine HC.out.mono ?_; rintro e w2 ⟨rfl, dn, hsw, hsk⟩)
      have HR := Lib.hid (HN.out dn hsw)
      have hdn := HR.out.1.1
      have S2 : Aside (SWK enc k w0 blk off dn w2) := hsk
      clear hsw hsk HC HN u1 u1' u2' u3'
      go_wp2
      clear u4 u4'
      go_roundg (i + p4)
      case measure => omega
      case rel => exact ⟨i, p4, dn, rfl, rfl, hi, hp4', Nat.le_refl _, hdn, S2, HR⟩
    · subst heq
      have q1 : ((i : Int) == (i : Int)) = true := by simp
      have q3 : ((i : Int) != (i : Int)) = false := by simp
      obtain ⟨p1, hp1⟩ : ∃ x, x = m - i := ⟨_, rfl⟩
      have u1 : IntKind.i64.wrap ((m : Int) - (i : Int)) = (p1 : Int) := by rw [IntKind.wrap_i64]; omega
      have u1' : (m : Int) - (i : Int) = (p1 : Int) := by omega
      have hc := HSW.out (m - i) m i dk wr (by omega) S1.out (by omega) (by omega) (by omega)
      have HN := Lib.hid (fun dn h => HW.out.done hb (dn := dn) h)
      rw [hds, ← hp1] at hc
      rw [← hp1] at HN
      have HC := Lib.hid hc
      clear hb3 hb4 hb5 hc hp1 S1 hds HW
      go_wp2_with (go_at_fn 206; refine HC.out.mono ?_; rintro e w2 ⟨rfl, dn, hsw, hsk⟩)
      go_end0
      exact ⟨rfl, dn, HN.out dn hsw, hsk⟩
    · have q1 : ((i : Int) == (j : Int)) = false := by simp; omega
      have q2 : (j : Int) < (i : Int) := by omega
      have q3 : ((i : Int) != (j : Int)) = true := by simp; omega
      obtain ⟨p1, hp1⟩ : ∃ x, x = m - i := ⟨_, rfl⟩
      obtain ⟨p4, hp4⟩ : ∃ x, x = i - j := ⟨_, rfl⟩
      have u1 : IntKind.i64.wrap ((m : Int) - (i : Int)) = (p1 : Int) := by rw [IntKind.wrap_i64]; omega
      have u1' : (m : Int) - (i : Int) = (p1 : Int) := by omega
      have u4 : IntKind.i64.wrap ((i : Int) - (j : Int)) = (p4 : Int) := by rw [IntKind.wrap_i64]; omega
      have u4' : (i : Int) - (j : Int) = (p4 : Int) := by omega
      have hc := HSW.out (m - i) m j dk wr (by omega) S1.out (by omega) (by omega) (by omega)
      have HN := Lib.hid (fun dn h => HW.out.right hb hgt (dn := dn) h)
      rw [hds, ← hp1] at hc
      rw [← hp1, ← hp4] at HN
      have HC := Lib.hid hc
      have hp4' : 0 < p4 := by omega
      have hpm : p4 < i := by omega
      clear hb3 hb4 hb5 hc hp1 hp4 S1 hds HW
      go_wp2_with (go_at_fn 206; refine HC.out.mono ?_; rintro e w2 ⟨rfl, dn, hsw, hsk⟩)
      have HR := Lib.hid (HN.out dn hsw)
      have hdn := HR.out.1.1
      have S2 : Aside (SWK enc k w0 blk off dn w2) := hsk
      clear hsw hsk HC HN u1 u1' u4 u4'
      go_wp2
      go_roundg (p4 + j)
      case measure => omega
      case rel => exact ⟨p4, j, dn, rfl, rfl, hp4', hj, Nat.le_refl _, hdn, S2, HR⟩
end
end Go.Proofs.YteodabnjkikogaaGreat.Tr

/-
  Walks over a program that is a variable: symMerge of slices.SortStableFunc at the rows of truncate.
-/
namespace Go.Proofs.YteodabnjkikogaaGreat.Tr
open Go.Shelf Go.RowKit Go.Lib Go.Sort
section
variable {P : Program} {α : Type} [Inhabited α]
set_option maxHeartbeats 8000000 in
set_option maxRecDepth 1000000 in
theorem symLeft_o (k : Nat) (L : StL P k) (enc : α → List Value) (cf : α → α → Int) (hO : SWO (ltOf cf)) (g : Nat) (cb : Array Value) (eg : ∀ args w, (callFunc g args).run P w = .ok (.enter g args) w) (blk off cap a m b : Nat) (d0 d : Array α) (w0 w : World)
    (hcmp : CmpLays P g cb enc k cf blk off d0.size w0) (R : RowK enc k w0 blk off d0) (hs : d0.size = d.size) (S : SWK enc k w0 blk off d w) (ham : a + 1 = m) (hmb : m < b) (hb : b ≤ d.size) (hsz : d.size < 1152921504606846976) (hr : SortedIn (ltOf cf) m b d) :
    Calls P 200 #[.slice (some ⟨blk, off, none⟩) d.size cap, .int .i64 a, .int .i64 m, .int .i64 b, .func (.func g) #[] cb] w fun e w' => e = .returned (.tuple #[]) ∧ ∃ dn, Mrg (ltOf cf) a b d dn ∧ SWK enc k w0 blk off dn w' := by
  have mixed := L.mixed; have t0 := L.t0; have a0 := L.a0; have z0 := L.z0; have v0 := L.v0; have t3 := L.t3; have a3 := L.a3; have z3 := L.z3; have v3 := L.v3; have t4 := L.t4; have a4 := L.a4; have z4 := L.z4; have v4 := L.v4; have tu := L.tu; have au := L.au; have zu := L.zu; have vu := L.vu; have t22 := L.t22; have a22 := L.a22; have z22 := L.z22; have v22 := L.v22; have t25 := L.t25; have a25 := L.a25; have z25 := L.z25; have v25 := L.v25; have aE := L.aE; have zE := L.zE
  have FG := L.g145
  have HC : Aside _ := hcmp
  have S0 : Aside (SWK enc k w0 blk off d w) := S
  have HR : Hid (SortedIn (ltOf cf) m b d) := hr
  have HO : Hid (SWO (ltOf cf)) := Lib.hid hO
  have q1 : (m : Int) - (a : Int) = 1 := by omega
  clear S L hcmp hr hO
  go_enter FG, Tryz.ntmps200
  go_wp2
  clear q1
  go_loopg [10, 11] (b - m) (fun kx s10 s11 wr => ∃ (i j : Nat), s10 = .int .i64 i ∧ s11 = .int .i64 j ∧ m ≤ i ∧ i ≤ j ∧ j ≤ b ∧ j - i ≤ kx ∧ Aside (SWK enc k w0 blk off d wr) ∧ Hid ((∀ x, m ≤ x → x < i → ltOf cf d[x]! d[a]! = true) ∧ (∀ x, j ≤ x → x < b → ltOf cf d[x]! d[a]! = false)))
  case atStart => exact ⟨m, b, rfl, rfl, by omega, by omega, by omega, by omega, S0, Lib.hid ⟨fun x _ _ => by omega, fun x _ _ => by omega⟩⟩
  case round =>
    clear S0
    obtain ⟨i, j, rfl, rfl, hmi, hij, hjb, hkx, S1, HX⟩ := hrel
    by_cases hlt : i < j
    · have hltz : (i : Int) < (j : Int) := by omega
      obtain ⟨h, hh⟩ : ∃ h, h = (i + j) / 2 := ⟨_, rfl⟩
      have hb1 : (i : Int) + (j : Int) < 4611686018427387904 := by omega
      have hb0 : 0 ≤ (i : Int) + (j : Int) := by omega
      have hhe : ((i : Int) + (j : Int)) / 2 = (h : Int) := by omega
      have hih : i ≤ h := by omega
      have hhj : h < j := by omega
      clear hh
      have hxs : h < d.size := by omega
      have hys : a < d.size := by omega
      cases hlv : ltOf cf d[h]! d[a]! with
      | true =>
        have HN : Hid (∀ x, m ≤ x → x < h + 1 → ltOf cf d[x]! d[a]! = true) := Lib.hid fun x h1 h2 => by
          by_cases e : x = h
          · subst e; exact hlv
          · have h3 : ltOf cf d[h]! d[x]! = false := HR.out x h h1 (by omega) (by omega)
            cases h4 : ltOf cf d[x]! d[a]! with
            | true => rfl
            | false => exact absurd (HO.out.ntrans _ _ _ h3 h4) (by rw [hlv]; simp)
        have ea : ((h : Nat) : Int).toNat = h := by omega
        have pa : (0 : Int) ≤ (h : Int) := by omega
        have ba : (h : Int) < (d.size : Int) := by omega
        have ec : ((a : Nat) : Int).toNat = a := by omega
        have pc : (0 : Int) ≤ (a : Int) := by omega
        have bc : (a : Int) < (d.size : Int) := by omega
        obtain ⟨vx, hvx⟩ : ∃ z, z = d[h]! := ⟨_, rfl⟩
        obtain ⟨vy, hvy⟩ : ∃ z, z = d[a]! := ⟨_, rfl⟩
        have la := S1.out.ld R (by omega) P h (by omega)
        have lb := S1.out.ld R (by omega) P a (by omega)
        rw [← hvx] at la
        rw [← hvy] at lb
        have hcm := S1.out.cmp HC.out (by omega) vx vy
        have hv : cf vx vy < 0 := by rw [hvx, hvy]; exact of_decide_eq_true hlv
        have hd : decide (cf vx vy < 0) = true := decide_eq_true hv
        clear hvx hvy
        go_wp2_with fail
        go_quiet_grown (first | (go_at_fn g; refine Calls.grown_of (hcm _ _)))
        have S2 : Aside (SWK enc k w0 blk off d (grow (wr.drewN nq) osq)) := S1.out.grown nq osq
        clear la lb hcm S1
        generalize grow (wr.drewN nq) osq = w2 at S2 ⊢
        clear nq osq
        go_wp2
        go_roundg (j - (h + 1))
        case measure => omega
        case rel => exact ⟨h + 1, j, by go_num, rfl, by omega, by omega, hjb, Nat.le_refl _, S2, Lib.hid ⟨HN.out, HX.out.2⟩⟩
      | false =>
        have HN : Hid (∀ x, h ≤ x → x < b → ltOf cf d[x]! d[a]! = false) := Lib.hid fun x h1 h2 => by
          by_cases e : x = h
          · subst e; exact hlv
          · have h3 : ltOf cf d[x]! d[h]! = false := HR.out h x (by omega) (by omega) h2
            exact HO.out.ntrans _ _ _ h3 hlv
        have ea : ((h : Nat) : Int).toNat = h := by omega
        have pa : (0 : Int) ≤ (h : Int) := by omega
        have ba : (h : Int) < (d.size : Int) := by omega
        have ec : ((a : Nat) : Int).toNat = a := by omega
        have pc : (0 : Int) ≤ (a : Int) := by omega
        have bc : (a : Int) < (d.size : Int) := by omega
        obtain ⟨vx, hvx⟩ : ∃ z, z = d[h]! := ⟨_, rfl⟩
        obtain ⟨vy, hvy⟩ : ∃ z, z = d[a]! := ⟨_, rfl⟩
        have la := S1.out.ld R (by omega) P h (by omega)
        have lb := S1.out.ld R (by omega) P a (by omega)
        rw [← hvx] at la
        rw [← hvy] at lb
        have hcm := S1.out.cmp HC.out (by omega) vx vy
        have hv : ¬ cf vx vy < 0 := by rw [hvx, hvy]; exact of_decide_eq_false hlv
        have hd : decide (cf vx vy < 0) = false := decide_eq_false hv
        clear hvx hvy
        go_wp2_with fail
        go_quiet_grown (first | (go_at_fn g; refine Calls.grown_of (hcm _ _)))
        have S2 : Aside (SWK enc k w0 blk off d (grow (wr.drewN nq) osq)) := S1.out.grown nq osq
        clear la lb hcm S1
        generalize grow (wr.drewN nq) osq = w2 at S2 ⊢
        clear nq osq
        go_wp2
        go_roundg (h - i)
        case measure => omega
        case rel => exact ⟨i, h, rfl, rfl, hmi, by omega, by omega, Nat.le_refl _, S2, Lib.hid ⟨HX.out.1, HN.out⟩⟩
    · have hltz : ¬ (i : Int) < (j : Int) := by omega
      have hje : j = i := by omega
      subst hje
      go_wp2
      go_loopg [13] (j - a) (fun kx s13 wr => ∃ (q : Nat) (dk : Array α), s13 = .int .i64 q ∧ a ≤ q ∧ q < j ∧ j - q ≤ kx ∧ dk.size = d.size ∧ Aside (SWK enc k w0 blk off dk wr) ∧ Hid (Rot a (a + 1) (q + 1) d dk))
      case atStart => exact ⟨a, d, rfl, by omega, by omega, by omega, rfl, S1, Lib.hid (Rot.one a d)⟩
      case round =>
        clear S1
        obtain ⟨q, dk, rfl, haq, hqj, hkq, hds, S1, HW⟩ := hrel
        have hj1 : 1 ≤ (j : Int) := by omega
        by_cases hqs : q + 1 < j
        · have hqz : (q : Int) < (j : Int) - 1 := by omega
          have hqz' : (q : Int) + 1 < (j : Int) := by omega
          go_wp2_with fail
          obtain ⟨y, hy⟩ : ∃ y, y = q + 1 := ⟨_, rfl⟩
          have HY := Lib.hid hy
          have wy : (q : Int) + 1 = (y : Int) := by omega
          have hxs : q < d.size := by omega
          have hys : y < d.size := by omega
          have ea : ((q : Int)).toNat = q := by omega
          have pa : (0 : Int) ≤ (q : Int) := by omega
          have ba : (q : Int) < (d.size : Int) := by omega
          have ec : ((y : Int)).toNat = y := by omega
          have pc : (0 : Int) ≤ (y : Int) := by omega
          have bc : (y : Int) < (d.size : Int) := by omega
          have wy2 : IntKind.i64.wrap ((q : Int) + 1) = (y : Int) := by rw [IntKind.wrap_i64]; omega
          have S2 : Aside (SWK enc k w0 blk off (swp dk q y) ((wr.drew.setCells blk (off + q * k) (enc dk[y]!)).setCells blk (off + y * k) (enc dk[q]!))) := S1.out.swapped R q y (by omega) (by omega)
          have l44a := S1.out.ld1 R (by omega) P q (by omega)
          have l44b := S1.out.ld1 R (by omega) P y (by omega)
          have s44a := S1.out.st1 R (by omega) P q (by omega) dk[y]!
          have s44b := S1.out.st2 R (by omega) P q y (by omega) (by omega) dk[y]! dk[q]!
          have n44a : (enc dk[q]!).length = k := R.hk _
          have n44b : (enc dk[y]!).length = k := R.hk _
          generalize enc dk[q]! = cI44 at S2 l44a s44b n44a
          generalize enc dk[y]! = cJ44 at S2 l44b s44a s44b n44b
          clear S1 hy
          go_big_region_o
          clear l44a l44b s44a s44b
          generalize (wr.drew.setCells blk (off + q * k) cJ44).setCells blk (off + y * k) cI44 = w2 at S2 ⊢
          clear wy wy2
          go_wp2
          go_roundg (j - (q + 1))
          case measure => omega
          case rel => exact ⟨q + 1, swp dk q y, by go_num, by omega, by omega, Nat.le_refl _, by rw [Go.Sort.size_swp]; exact hds, S2, by rw [HY.out]; exact Lib.hid (HW.out.up haq (by omega))⟩
        · have hqz : ¬ (q : Int) < (j : Int) - 1 := by omega
          have hqz' : ¬ (q : Int) + 1 < (j : Int) := by omega
          have hqe : q + 1 = j := by omega
          have hm : Mrg (ltOf cf) a b d dk := mrg_left HO.out (i := q + 1) HW.out (by omega) (by omega) hb (by rw [ham]; exact HR.out) (fun x h1 h2 => HX.out.1 x (by omega) (by omega)) (fun x h1 h2 => HX.out.2 x (by omega) h2)
          have HM := Lib.hid hm
          clear hm
          go_wp2
          (try simp only [Exit.inBlock, Exit.then]); refine bodyPost_ret (results_none rfl _ _ _) rfl ?_
          exact ⟨rfl, dk, HM.out, S1.out⟩
end
end Go.Proofs.YteodabnjkikogaaGreat.Tr

/-
  Walks over a program that is a variable: symMerge of slices.SortStableFunc at the rows of truncate.
-/
namespace Go.Proofs.YteodabnjkikogaaGreat.Tr
open Go.Shelf Go.RowKit Go.Lib Go.Sort
section
variable {P : Program} {α : Type} [Inhabited α]
set_option maxHeartbeats 8000000 in
set_option maxRecDepth 1000000 in
theorem symRight_o (k : Nat) (L : StL P k) (enc : α → List Value) (cf : α → α → Int) (hO : SWO (ltOf cf)) (g : Nat) (cb : Array Value) (eg : ∀ args w, (callFunc g args).run P w = .ok (.enter g args) w) (blk off cap a m b : Nat) (d0 d : Array α) (w0 w : World)
    (hcmp : CmpLays P g cb enc k cf blk off d0.size w0) (R : RowK enc k w0 blk off d0) (hs : d0.size = d.size) (S : SWK enc k w0 blk off d w) (ham : a < m) (hne : a + 1 ≠ m) (hmb : m + 1 = b) (hb : b ≤ d.size) (hsz : d.size < 1152921504606846976) (hl : SortedIn (ltOf cf) a m d) :
    Calls P 200 #[.slice (some ⟨blk, off, none⟩) d.size cap, .int .i64 a, .int .i64 m, .int .i64 b, .func (.func g) #[] cb] w fun e w' => e = .returned (.tuple #[]) ∧ ∃ dn, Mrg (ltOf cf) a b d dn ∧ SWK enc k w0 blk off dn w' := by
  have mixed := L.mixed; have t0 := L.t0; have a0 := L.a0; have z0 := L.z0; have v0 := L.v0; have t3 := L.t3; have a3 := L.a3; have z3 := L.z3; have v3 := L.v3; have t4 := L.t4; have a4 := L.a4; have z4 := L.z4; have v4 := L.v4; have tu := L.tu; have au := L.au; have zu := L.zu; have vu := L.vu; have t22 := L.t22; have a22 := L.a22; have z22 := L.z22; have v22 := L.v22; have t25 := L.t25; have a25 := L.a25; have z25 := L.z25; have v25 := L.v25; have aE := L.aE; have zE := L.zE
  have FG := L.g145
  have HC : Aside _ := hcmp
  have S0 : Aside (SWK enc k w0 blk off d w) := S
  have HL : Hid (SortedIn (ltOf cf) a m d) := hl
  have HO : Hid (SWO (ltOf cf)) := Lib.hid hO
  obtain ⟨ma, hma⟩ : ∃ x, x = m - a := ⟨_, rfl⟩
  have q1 : (m : Int) - (a : Int) = (ma : Int) := by omega
  have q1' : ((ma : Int) == 1) = false := by simp; omega
  have q2 : (b : Int) - (m : Int) = 1 := by omega
  have hmas : (ma : Int) < 1152921504606846976 := by omega
  clear S L hcmp hl hO hma
  go_enter FG, Tryz.ntmps200
  go_wp2
  clear q1 q1' q2
  go_loopg [14, 15] (m - a) (fun kx s10 s11 wr => ∃ (i j : Nat), s10 = .int .i64 i ∧ s11 = .int .i64 j ∧ a ≤ i ∧ i ≤ j ∧ j ≤ m ∧ j - i ≤ kx ∧ Aside (SWK enc k w0 blk off d wr) ∧ Hid ((∀ x, a ≤ x → x < i → ltOf cf d[m]! d[x]! = false) ∧ (∀ x, j ≤ x → x < m → ltOf cf d[m]! d[x]! = true)))
  case atStart => exact ⟨a, m, rfl, rfl, by omega, by omega, by omega, by omega, S0, Lib.hid ⟨fun x _ _ => by omega, fun x _ _ => by omega⟩⟩
  case round =>
    clear S0
    obtain ⟨i, j, rfl, rfl, hmi, hij, hjb, hkx, S1, HX⟩ := hrel
    by_cases hlt : i < j
    · have hltz : (i : Int) < (j : Int) := by omega
      obtain ⟨h, hh⟩ : ∃ h, h = (i + j) / 2 := ⟨_, rfl⟩
      have hb1 : (i : Int) + (j : Int) < 4611686018427387904 := by omega
      have hb0 : 0 ≤ (i : Int) + (j : Int) := by omega
      have hhe : ((i : Int) + (j : Int)) / 2 = (h : Int) := by omega
      have hih : i ≤ h := by omega
      have hhj : h < j := by omega
      clear hh
      have hxs : m < d.size := by omega
      have hys : h < d.size := by omega
      cases hlv : ltOf cf d[m]! d[h]! with
      | true =>
        have HN : Hid (∀ x, h ≤ x → x < m → ltOf cf d[m]! d[x]! = true) := Lib.hid fun x h1 h2 => by
          by_cases e : x = h
          · subst e; exact hlv
          · have h3 : ltOf cf d[x]! d[h]! = false := HL.out h x (by omega) (by omega) h2
            cases h4 : ltOf cf d[m]! d[x]! with
            | true => rfl
            | false => exact absurd (HO.out.ntrans _ _ _ h4 h3) (by rw [hlv]; simp)
        have ea : ((m : Nat) : Int).toNat = m := by omega
        have pa : (0 : Int) ≤ (m : Int) := by omega
        have ba : (m : Int) < (d.size : Int) := by omega
        have ec : ((h : Nat) : Int).toNat = h := by omega
        have pc : (0 : Int) ≤ (h : Int) := by omega
        have bc : (h : Int) < (d.size : Int) := by omega
        obtain ⟨vx, hvx⟩ : ∃ z, z = d[m]! := ⟨_, rfl⟩
        obtain ⟨vy, hvy⟩ : ∃ z, z = d[h]! := ⟨_, rfl⟩
        have la := S1.out.ld R (by omega) P m (by omega)
        have lb := S1.out.ld R (by omega) P h (by omega)
        rw [← hvx] at la
        rw [← hvy] at lb
        have hcm := S1.out.cmp HC.out (by omega) vx vy
        have hv : cf vx vy < 0 := by rw [hvx, hvy]; exact of_decide_eq_true hlv
        have hd : decide (cf vx vy < 0) = true := decide_eq_true hv
        clear hvx hvy
        go_wp2_with fail
        go_quiet_grown (first | (go_at_fn g; refine Calls.grown_of (hcm _ _)))
        have S2 : Aside (SWK enc k w0 blk off d (grow (wr.drewN nq) osq)) := S1.out.grown nq osq
        clear la lb hcm S1
        generalize grow (wr.drewN nq) osq = w2 at S2 ⊢
        clear nq osq
        go_wp2
        go_roundg (h - i)
        case measure => omega
        case rel => exact ⟨i, h, rfl, rfl, hmi, by omega, by omega, Nat.le_refl _, S2, Lib.hid ⟨HX.out.1, HN.out⟩⟩
      | false =>
        have HN : Hid (∀ x, a ≤ x → x < h + 1 → ltOf cf d[m]! d[x]! = false) := Lib.hid fun x h1 h2 => by
          by_cases e : x = h
          · subst e; exact hlv
          · have h3 : ltOf cf d[h]! d[x]! = false := HL.out x h h1 (by omega) (by omega)
            exact HO.out.ntrans _ _ _ hlv h3
        have ea : ((m : Nat) : Int).toNat = m := by omega
        have pa : (0 : Int) ≤ (m : Int) := by omega
        have ba : (m : Int) < (d.size : Int) := by omega
        have ec : ((h : Nat) : Int).toNat = h := by omega
        have pc : (0 : Int) ≤ (h : Int) := by omega
        have bc : (h : Int) < (d.size : Int) := by omega
        obtain ⟨vx, hvx⟩ : ∃ z, z = d[m]! := ⟨_, rfl⟩
        obtain ⟨vy, hvy⟩ : ∃ z, z = d[h]! := ⟨_, rfl⟩
        have la := S1.out.ld R (by omega) P m (by omega)
        have lb := S1.out.ld R (by omega) P h (by omega)
        rw [← hvx] at la
        rw [← hvy] at lb
        have hcm := S1.out.cmp HC.out (by omega) vx vy
        have hv : ¬ cf vx vy < 0 := by rw [hvx, hvy]; exact of_decide_eq_false hlv
        have hd : decide (cf vx vy < 0) = false := decide_eq_false hv
        clear hvx hvy
        go_wp2_with fail
        go_quiet_grown (first | (go_at_fn g; refine Calls.grown_of (hcm _ _)))
        have S2 : Aside (SWK enc k w0 blk off d (grow (wr.drewN nq) osq)) := S1.out.grown nq osq
        clear la lb hcm S1
        generalize grow (wr.drewN nq) osq = w2 at S2 ⊢
        clear nq osq
        go_wp2
        go_roundg (j - (h + 1))
        case measure => omega
        case rel => exact ⟨h + 1, j, by go_num, rfl, by omega, by omega, hjb, Nat.le_refl _, S2, Lib.hid ⟨HN.out, HX.out.2⟩⟩
    · have hltz : ¬ (i : Int) < (j : Int) := by omega
      have hje : j = i := by omega
      subst hje
      go_wp2
      go_loopg [17] (m - j) (fun kx s13 wr => ∃ (q : Nat) (dk : Array α), s13 = .int .i64 q ∧ j ≤ q ∧ q ≤ m ∧ q - j ≤ kx ∧ dk.size = d.size ∧ Aside (SWK enc k w0 blk off dk wr) ∧ Hid (Rot q m (m + 1) d dk))
      case atStart => exact ⟨m, d, rfl, by omega, by omega, by omega, rfl, S1, Lib.hid (Rot.none m (m + 1) d)⟩
      case round =>
        clear S1
        obtain ⟨q, dk, rfl, haq, hqj, hkq, hds, S1, HW⟩ := hrel
        by_cases hqs : j < q
        · have hqz : (j : Int) < (q : Int) := by omega
          obtain ⟨y, hy⟩ : ∃ y, y = q - 1 := ⟨_, rfl⟩
          go_wp2_with fail
          have HY : Hid (q = y + 1) := Lib.hid (by omega)
          have wy : (q : Int) - 1 = (y : Int) := by omega
          have hxs : q < d.size := by omega
          have hys : y < d.size := by omega
          have hyj : j ≤ y := by omega
          have hyq : y < q := by omega
          have ea : ((q : Int)).toNat = q := by omega
          have pa : (0 : Int) ≤ (q : Int) := by omega
          have ba : (q : Int) < (d.size : Int) := by omega
          have ec : ((y : Int)).toNat = y := by omega
          have pc : (0 : Int) ≤ (y : Int) := by omega
          have bc : (y : Int) < (d.size : Int) := by omega
          have wy2 : IntKind.i64.wrap ((q : Int) - 1) = (y : Int) := by rw [IntKind.wrap_i64]; omega
          have S2 : Aside (SWK enc k w0 blk off (swp dk q y) ((wr.drew.setCells blk (off + q * k) (enc dk[y]!)).setCells blk (off + y * k) (enc dk[q]!))) := S1.out.swapped R q y (by omega) (by omega)
          have l44a := S1.out.ld1 R (by omega) P q (by omega)
          have l44b := S1.out.ld1 R (by omega) P y (by omega)
          have s44a := S1.out.st1 R (by omega) P q (by omega) dk[y]!
          have s44b := S1.out.st2 R (by omega) P q y (by omega) (by omega) dk[y]! dk[q]!
          have n44a : (enc dk[q]!).length = k := R.hk _
          have n44b : (enc dk[y]!).length = k := R.hk _
          generalize enc dk[q]! = cI44 at S2 l44a s44b n44a
          generalize enc dk[y]! = cJ44 at S2 l44b s44a s44b n44b
          clear S1 hy
          go_big_region_o
          clear l44a l44b s44a s44b
          generalize (wr.drew.setCells blk (off + q * k) cJ44).setCells blk (off + y * k) cI44 = w2 at S2 ⊢
          clear wy2
          go_wp2
          go_roundg (y - j)
          case measure => omega
          case rel => exact ⟨y, swp dk q y, rfl, by omega, by omega, Nat.le_refl _, by rw [Go.Sort.size_swp]; exact hds, S2, by have h := HW.out; rw [HY.out] at h ⊢; exact Lib.hid (h.down (by omega) (by omega))⟩
        · have hqz : ¬ (j : Int) < (q : Int) := by omega
          have hqe : q = j := by omega
          have hm : Mrg (ltOf cf) a (m + 1) d dk := mrg_right HO.out (i := q) HW.out (by omega) (by omega) (by omega) HL.out (fun x h1 h2 => HX.out.1 x (by omega) (by omega)) (fun x h1 h2 => HX.out.2 x (by omega) h2)
          rw [hmb] at hm
          have HM := Lib.hid hm
          clear hm
          go_wp2
          (try simp only [Exit.inBlock, Exit.then]); refine bodyPost_ret (results_none rfl _ _ _) rfl ?_
          exact ⟨rfl, dk, HM.out, S1.out⟩
end
end Go.Proofs.YteodabnjkikogaaGreat.Tr
