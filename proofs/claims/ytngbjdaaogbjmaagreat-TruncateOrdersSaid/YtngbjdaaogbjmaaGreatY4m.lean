import Derived.Test.YtngbjdaaogbjmaaGreatY3m
import Derived.Deep.RegionLaw
/-
  Walks: the cutter of truncate: add, emit.
-/
namespace Go.Proofs.YtngbjdaaogbjmaaGreat
open Go.RowKit

theorem info_trow : (Tryz.prog.info? 109).map (fun i => (i.zero, i.size, i.bytes)) = some (some (.agg #[.int .i64 0, .int .u64 0, .int .u64 0]), 3, 24) := by kernel_rfl
set_option maxRecDepth 100000 in
theorem cadd_ev (gl e l h a V : Nat) (w : World) (hc : w.cell? ⟨gl, 0, none⟩ = some (.int .i64 V)) (he : e < 16777216) (hV : V ≤ 24) (ha : a < V) :
    Calls Tryz.prog 76 #[.pointer (some ⟨gl, 0, none⟩), .agg #[.int .i64 e, .int .u64 l, .int .u64 h], .int .i64 a] w fun e' w' => e' = .returned (.agg #[.int .i64 (e ||| 2 ^ a : Nat), .int .u64 l, .int .u64 h]) ∧ Kept w w' := by
  have hgl : gl < w.heap.size := World.block_lt_of_cell? w _ hc
  have h1 : (a : Int) < (V : Int) := by omega
  have h2 : ¬ (a : Int) < 0 := by omega
  have p1 := pow_i64 a (by omega)
  have hp := pow_lt24 (show a < 24 by omega)
  obtain ⟨z, hz⟩ : ∃ z, z = 2 ^ a := ⟨_, rfl⟩
  have p3 : IntKind.i64.wrap ((2 : Int) ^ a) = (z : Int) := by
    rw [show (2 : Int) ^ a = (z : Int) by rw [hz]; simp, IntKind.wrap_i64]; omega
  rw [← hz] at p1 hp ⊢
  have p2 := or_i64 e z (by omega) (by omega)
  clear hz
  obtain ⟨y, hy⟩ : ∃ y, y = e ||| z := ⟨_, rfl⟩
  rw [← hy] at p2 ⊢
  clear hy
  have c0 := (((Kept.refl w).alloc (.cells #[.int .i64 e, .int .u64 l, .int .u64 h] 109)).alloc (.cells #[.int .i64 0, .int .u64 0, .int .u64 0] 109)).cell hc
  go_enter Tryz.func76, Tryz.ntmps76
  go_wp2
  go_region
  all_goals go_wp2
  all_goals exact bodyPost_ret (v := .agg #[.int .i64 y, .int .u64 l, .int .u64 h]) (by simp [results, Tryz.results76, go_sem]) rfl ⟨rfl, by repeat (first | exact Kept.refl _ | apply Kept.drew | apply Kept.alloc | refine Kept.store ?_ (by simp) _ _)⟩
set_option maxRecDepth 100000 in
set_option maxHeartbeats 4000000 in
theorem cadd_node (gl c j V : Nat) (w : World) (hcl : w.cell? ⟨gl, 0, none⟩ = some (.int .i64 V)) (hc : RowLt 152 c) (hV : V ≤ 24) (hj : j < 128) :
    Calls Tryz.prog 76 #[.pointer (some ⟨gl, 0, none⟩), rowV c, .int .i64 (V + j : Nat)] w fun e' w' => e' = .returned (rowV (c ||| 2 ^ (24 + j))) ∧ Kept w w' := by
  have hgl : gl < w.heap.size := World.block_lt_of_cell? w _ hcl
  have HFL := Lib.hid (fun W => tflip_any hc j hj W)
  obtain ⟨a, ha⟩ : ∃ a, a = V + j := ⟨_, rfl⟩
  rw [← ha]
  have h1 : ¬ (a : Int) < (V : Int) := by omega
  have h3 : IntKind.i64.wrap ((a : Int) - (V : Int)) = (j : Int) := by rw [IntKind.wrap_i64]; omega
  have h4 : (a : Int) - (V : Int) = (j : Int) := by omega
  have h5 : IntKind.i64.wrap (j : Int) = (j : Int) := by rw [IntKind.wrap_i64]; omega
  clear ha hc
  unfold rowV at *
  generalize c ||| 2 ^ (24 + j) = d at *
  generalize evW c = x0 at *
  generalize loW c = x1 at *
  generalize hiW c = x2 at *
  generalize evW d = y0 at *
  generalize loW d = y1 at *
  generalize hiW d = y2 at *
  have c0 := (((Kept.refl w).alloc (.cells #[.int .i64 x0, .int .u64 x1, .int .u64 x2] 109)).alloc (.cells #[.int .i64 0, .int .u64 0, .int .u64 0] 109)).cell hcl
  obtain ⟨L, hL⟩ : ∃ L, L = (w.alloc (.cells #[.int .i64 x0, .int .u64 x1, .int .u64 x2] 109)).alloc (.cells #[.int .i64 0, .int .u64 0, .int .u64 0] 109) := ⟨_, rfl⟩
  have HL := Lib.hid hL
  have q0 : L.cell? ⟨w.heap.size, 0, none⟩ = some (.int .i64 x0) := by rw [hL]; exact ((Kept.refl _).alloc _).cell (by simp)
  have q1 : L.cell? ⟨w.heap.size, 1, none⟩ = some (.int .u64 x1) := by rw [hL]; exact ((Kept.refl _).alloc _).cell (by simp)
  have q2 : L.cell? ⟨w.heap.size, 2, none⟩ = some (.int .u64 x2) := by rw [hL]; exact ((Kept.refl _).alloc _).cell (by simp)
  have HR : Hid (RowAt L (w.heap.size + 1) 109 [.int .i64 0, .int .u64 0, .int .u64 0]) := Lib.hid (by
    rw [hL]
    have := RowAt.made (w.alloc (.cells #[.int .i64 x0, .int .u64 x1, .int .u64 x2] 109)) #[.int .i64 0, .int .u64 0, .int .u64 0] 109
    simpa using this)
  have HK : Hid (Kept w L) := Lib.hid (by rw [hL]; exact ((Kept.refl _).alloc _).alloc _)
  rw [← hL] at c0
  clear hL
  go_enter Tryz.func76, Tryz.ntmps76
  go_upto_region 4 with fail
  rw [← HL.out]
  have x0' := ((Kept.refl L).drew).cell q0
  have x1' := ((Kept.refl L).drew).cell q1
  have x2' := ((Kept.refl L).drew).cell q2
  have xc' := ((Kept.refl L).drew).cell c0
  go_region_with (go_at_call 133; (with_reducible refine (HFL.out _).mono ?_); rintro e w3 ⟨rfl, hk3⟩; have hr3 := HR.out.kept ((Kept.refl L).drew.trans hk3); have r0 := hr3.cell (i := 0) (by simp); have r1 := hr3.cell (i := 1) (by simp); have r2 := hr3.cell (i := 2) (by simp); have f0 := hr3.free 0; have f1 := hr3.free 1; have f2 := hr3.free 2; simp only [List.getElem_cons_succ, List.getElem_cons_zero] at r0 r1 r2; have HR3 := Lib.hid hr3; have HK3 := Lib.hid ((Kept.refl L).drew.trans hk3); clear hr3 hk3)
  all_goals go_wp2
  all_goals
    have hr9 := ((HR3.out.store 0 (.int .i64 y0)).store 1 (.int .u64 y1)).store 2 (.int .u64 y2)
    have s0 := hr9.cell (i := 0) (by simp)
    have s1 := hr9.cell (i := 1) (by simp)
    have s2 := hr9.cell (i := 2) (by simp)
    simp only [List.set_cons_succ, List.set_cons_zero, List.getElem_cons_succ, List.getElem_cons_zero] at s0 s1 s2
    exact bodyPost_ret (v := .agg #[.int .i64 y0, .int .u64 y1, .int .u64 y2]) (by simp [results, Tryz.results76, go_sem, s0, s1, s2]) rfl ⟨rfl, (((HK.out.trans HK3.out).store (by omega) 0 _).store (by omega) 1 _).store (by omega) 2 _⟩
theorem cadd_any (gl c V : Nat) (a : Int) (w : World) (hcl : w.cell? ⟨gl, 0, none⟩ = some (.int .i64 V)) (hc : RowLt 152 c) (hV : V ≤ 24) (ha : 0 ≤ a ∧ a < (V : Int) + 128) :
    Calls Tryz.prog 76 #[.pointer (some ⟨gl, 0, none⟩), rowV c, .int .i64 a] w fun e' w' => e' = .returned (rowV (withC V c a)) ∧ Kept w w' := by
  unfold withC cond
  by_cases h : a < V
  · rw [if_pos h]
    have := cadd_ev gl (evW c) (loW c) (hiW c) a.toNat V w hcl (evW_lt c) hV (by omega)
    obtain ⟨e1, e2, e3⟩ := ev_with (c := c) (a := a.toNat) (by omega)
    rw [show ((a.toNat : Nat) : Int) = a by omega] at this
    unfold rowV
    rw [e1, e2, e3]
    exact this
  · rw [if_neg h]
    have := cadd_node gl c (a - V).toNat V w hcl hc hV (by omega)
    rw [show ((V + (a - V).toNat : Nat) : Int) = a by omega] at this
    exact this
end Go.Proofs.YtngbjdaaogbjmaaGreat
