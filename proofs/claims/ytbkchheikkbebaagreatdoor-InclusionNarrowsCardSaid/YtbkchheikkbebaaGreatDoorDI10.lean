import Derived.WalkKit
import Derived.WalkSpells
import Derived.WalkLawsBesides
import Derived.Deep.QuietTactic
import Derived.BigQuiet
import Derived.Lib.Hide
import Derived.Shelf.Abstract
import Derived.Deep.RegionWith
import Derived.Laws.AppendOwnNone
import Derived.Lib.AppendZerosOnto
import Derived.Lib.SliceRun
import Derived.Lib.SlicesCompact
import Derived.Shelf.SlSortCmp.NoneTotal
import Derived.Maps.OwnOps
import Derived.Maps.OwnSet
import Derived.Maps.Views
import Derived.Deep.MidRow
import Derived.Deep.RegionHeld3
import Derived.Deep.AppendLies
import Derived.Deep.RegionLaw
import Derived.IntWalk
import Derived.StillTailTactics
import Derived.ProofKit
import Derived.OpenShut
import Derived.SizedLaws
import Derived.Lib.SmallJoins
import Derived.Deep.Slices
import Derived.Deep.Fields
import Derived.Deep.Strs
import Derived.Carry
import Derived.Deep.DeepCutAuto
import Derived.BigRegion
import Derived.ChangeAlike
import Derived.Deep.LoopGhost
import Derived.Lib.ItoaNum
import Derived.RegionTactic
import Derived.Shelf.SlSortCmp.PdqK
import Derived.Sort.LotA
import Derived.Sort.LotD2
import Derived.Lib.BitFns
import Derived.Deep.CutBlock
import Derived.Laws.IdiomStrings
import Derived.Test.YtbkchheikkbebaaGreatDoorDI9
import Derived.Test.YtbkchheikkbebaaGreatDoorDI7
import Derived.Test.YtbkchheikkbebaaGreatDoorDI8
import Derived.Test.YtbkchheikkbebaaGreatDoorDI6
/-
  Walks: span.norm, Contains, Inside, Width, Text.
-/
namespace Go.Proofs.YtbkchheikkbebaaGreatDoor
open Go.RowKit

set_option maxRecDepth 100000 in
set_option maxHeartbeats 8000000 in
theorem snorm_any (v : Value) (a b : Rat) (w : World) (hv : SpanV w v (canR a) (canR b)) (ha : (canR a).Short 200000) (hb : (canR b).Short 200000) (hab : a ≤ b) : Calls Tryz.prog 124 #[v] w fun e w' => (∃ v', e = .returned v' ∧ SpanV w' v' (canR a) (canR b)) ∧ Kept w w' := by
  have HVA : Hid (∀ W u, SpanV W u (canR a) (canR b) → Calls Tryz.prog 51 #[u] W fun e w' => e = .returned (.bool true) ∧ Kept W w') := Lib.hid fun W u h => svalid_any u a b W h ha hb hab
  have HOF : Hid (∀ W g, ArrAt W g 39 [canR a, canR b] → Calls Tryz.prog 194 #[.slice (some ⟨g, 0, none⟩) 2 2] W fun e w' => (∃ v', e = .returned v' ∧ SpanV w' v' (canR a) (canR b)) ∧ Kept W w') := Lib.hid fun W g h => sof_any g a b W h ha hb hab
  obtain ⟨lo, hlo⟩ : ∃ lo, lo = canR a := ⟨_, rfl⟩
  obtain ⟨hi, hhi⟩ : ∃ hi, hi = canR b := ⟨_, rfl⟩
  rw [← hlo, ← hhi] at HVA HOF hv ⊢
  clear ha hb hab hlo hhi
  obtain ⟨n1, l1, m1, n2, l2, m2, a1, c1, a2, c2, a3, c3, a4, c4, w1, rfl, hw1, hs1, hk1, hsv, hz1⟩ := hv.box
  obtain ⟨w2, hw2⟩ : ∃ w2, w2 = w1.alloc (.cells #[.bool false, .slice none 0 0, .slice none 0 0, .bool false, .slice none 0 0, .slice none 0 0] 61) := ⟨_, rfl⟩
  have HS2 : Hid (SpnAt w2 (w.heap.size + 1) ⟨false, [], []⟩ ⟨false, [], []⟩) := Lib.hid (by rw [hw2, ← hz1]; exact SpnAt.zero w1)
  have hk2 : Kept w1 w2 := by rw [hw2]; exact (Kept.refl _).alloc _
  have HSV := Lib.hid (hsv.kept hk2)
  have HA := Lib.hid (hs1.kept hk2)
  have HK2 := Lib.hid (hk1.trans hk2)
  have HW2 : Hid (w2 = (w.alloc (.cells #[.bool n1, .slice a1 l1 c1, .slice a2 m1 c2, .bool n2, .slice a3 l2 c3, .slice a4 m2 c4] 61)).alloc (.cells #[.bool false, .slice none 0 0, .slice none 0 0, .bool false, .slice none 0 0, .slice none 0 0] 61)) := Lib.hid (by rw [hw2, hw1])
  clear hv hw1 hs1 hk1 hsv hz1 hw2 hk2
  go_enter Tryz.func124, Tryz.ntmps124
  go_wp2_with fail
  rw [← HW2.out]
  refine (HVA.out _ _ HSV.out).mono ?_
  rintro e w3 ⟨rfl, hk3⟩
  have HK3 := Lib.hid (HK2.out.trans hk3)
  have HS3 := Lib.hid (HS2.out.kept hk3)
  obtain ⟨n5, l5, m5, n6, l6, m6, a5, c5, a6, c6, a7, c7, a8, c8, x0, x1, x2, x3, x4, x5, hlx, HXL, HXH, _⟩ := (HA.out.kept hk3).read
  obtain ⟨w4, hw4⟩ : ∃ w4, w4 = w3.alloc (.cells #[.bool n5, .slice a5 l5 c5, .slice a6 m5 c6, .bool n6, .slice a7 l6 c7, .slice a8 m6 c8] 39) := ⟨_, rfl⟩
  have HAR : Hid (ArrAt w4 w3.heap.size 39 [lo, hi]) := Lib.hid (by rw [hw4]; exact ArrAt.two HXL.out HXH.out)
  have HK4 : Hid (Kept w3 w4) := Lib.hid (by rw [hw4]; exact (Kept.refl _).alloc _)
  have HW4 := Lib.hid hw4
  clear hk3 hw4
  go_wp2_with fail
  rw [← HW4.out]
  refine (HOF.out _ _ HAR.out).mono ?_
  rintro e w5 ⟨⟨v5, rfl, hv5⟩, hk5⟩
  have HK5 := Lib.hid (HK3.out.trans (HK4.out.trans hk5))
  obtain ⟨q1, q2, q3, q4, q5, q6, r1, r2, r3, r4, r5, r6, r7, r8, w6, rfl, hw6, ⟨⟨z0, p0⟩, ⟨z1, p1⟩, ⟨z2, p2⟩, ⟨z3, p3⟩, ⟨z4, p4⟩, ⟨z5, p5⟩⟩, ⟨f0, f1, f2, f3, f4, f5⟩, hl6, Y, HSP, _, _, HKP⟩ := (HS3.out.kept (HK4.out.trans hk5)).put hv5
  have HKE := Lib.hid (HKP.out _ HK5.out (by omega))
  rw [hw6] at Y HSP HKE
  clear hv5 hk5 hw6 x0 x1 x2 x3 x4 x5 hlx HKP
  go_wp2
  refine bodyPost_ret (v := .agg #[.bool q1, .slice r1 q2 r2, .slice r3 q3 r4, .bool q4, .slice r5 q5 r6, .slice r7 q6 r8]) ?_ rfl ⟨⟨_, rfl, HSP.out⟩, HKE.out⟩
  simp [results, Tryz.results124, go_sem, Y.out.1, Y.out.2.1, Y.out.2.2.1, Y.out.2.2.2.1, Y.out.2.2.2.2.1, Y.out.2.2.2.2.2]
set_option maxRecDepth 100000 in
set_option maxHeartbeats 1000000 in
theorem scontains_any (v xv : Value) (a b x : Rat) (w : World) (hv : SpanV w v (canR a) (canR b)) (hx : RatAt w xv (canR x)) (ha : (canR a).Short 200000) (hb : (canR b).Short 200000) (hsx : (canR x).Short 200000) (hab : a ≤ x) (hxb : x ≤ b) : Calls Tryz.prog 52 #[v, xv] w fun e w' => e = .returned (.bool true) ∧ Kept w w' := by
  have HNO : Hid (∀ W u, SpanV W u (canR a) (canR b) → Calls Tryz.prog 124 #[u] W fun e w' => (∃ v', e = .returned v' ∧ SpanV w' v' (canR a) (canR b)) ∧ Kept W w') := Lib.hid fun W u h => snorm_any u a b W h ha hb (Rat.le_trans hab hxb)
  have sh : ∀ {y : Rat}, (canR y).Short 200000 → (canR y).Short 68719476736 := fun h => ⟨Nat.le_trans h.1 (by omega), Nat.le_trans h.2 (by omega)⟩
  obtain ⟨S, hS⟩ : ∃ S, S = sgnR (a - x) := ⟨_, rfl⟩
  obtain ⟨T, hT⟩ : ∃ T, T = sgnR (x - b) := ⟨_, rfl⟩
  have HC1 : Hid (∀ W u1 u2, RatAt W u1 (canR a) → RatAt W u2 (canR x) → Calls Tryz.prog 44 #[u1, u2] W fun e w' => e = .returned (.int .i64 S) ∧ Kept W w') := Lib.hid fun W u1 u2 k1 k2 => by
    have h := rcmp_any u1 u2 _ _ W k1 k2 (sh ha) (sh hsx)
    rw [ratOf_can, ratOf_can, ← hS] at h
    exact h
  have HC2 : Hid (∀ W u1 u2, RatAt W u1 (canR x) → RatAt W u2 (canR b) → Calls Tryz.prog 44 #[u1, u2] W fun e w' => e = .returned (.int .i64 T) ∧ Kept W w') := Lib.hid fun W u1 u2 k1 k2 => by
    have h := rcmp_any u1 u2 _ _ W k1 k2 (sh hsx) (sh hb)
    rw [ratOf_can, ratOf_can, ← hT] at h
    exact h
  have hS0 : S ≤ 0 := by rw [hS]; exact (sub_le0 a x).2 hab
  have hT0 : T ≤ 0 := by rw [hT]; exact (sub_le0 x b).2 hxb
  clear hS hT
  obtain ⟨lo, hlo⟩ : ∃ lo, lo = canR a := ⟨_, rfl⟩
  obtain ⟨hi, hhi⟩ : ∃ hi, hi = canR b := ⟨_, rfl⟩
  obtain ⟨p, hp⟩ : ∃ p, p = canR x := ⟨_, rfl⟩
  rw [← hlo, ← hhi] at HNO hv
  rw [← hlo, ← hp] at HC1
  rw [← hhi, ← hp] at HC2
  rw [← hp] at hx
  clear ha hb hab hsx hxb hlo hhi hp sh
  obtain ⟨n1, l1, m1, n2, l2, m2, a1, c1, a2, c2, a3, c3, a4, c4, w1, rfl, hw1, hs1, hk1, hsv, hz1⟩ := hv.box
  obtain ⟨n3, l3, m3, a5, c5, a6, c6, w2, rfl, hw2, hc2, hk2, hr2, hz2⟩ := (hx.kept hk1).box
  have HSV := Lib.hid (hsv.kept hk2)
  have HA := Lib.hid (hs1.kept hk2)
  have HC : Hid (RatCell w2 (w.heap.size + 1) p) := Lib.hid (by rw [← hz1]; exact hc2)
  have HK2 := Lib.hid (hk1.trans hk2)
  have HW2 : Hid (w2 = (w.alloc (.cells #[.bool n1, .slice a1 l1 c1, .slice a2 m1 c2, .bool n2, .slice a3 l2 c3, .slice a4 m2 c4] 61)).alloc (.cells #[.bool n3, .slice a5 l3 c5, .slice a6 m3 c6] 39)) := Lib.hid (by rw [hw2, hw1])
  have HZ1 := Lib.hid hz1
  clear hv hx hw1 hs1 hk1 hsv hz1 hw2 hk2 hc2 hr2 hz2
  go_enter Tryz.func52, Tryz.ntmps52
  go_wp2_with fail
  rw [← HW2.out]
  refine (HNO.out _ _ HSV.out).mono ?_
  rintro e w3 ⟨⟨v3, rfl, hv3⟩, hk3⟩
  have HK3 := Lib.hid (HK2.out.trans hk3)
  have HC3 := Lib.hid (HC.out.kept hk3)
  obtain ⟨q1, q2, q3, q4, q5, q6, r1, r2, r3, r4, r5, r6, r7, r8, w4, rfl, hw4, ⟨⟨z0, p0⟩, ⟨z1, p1⟩, ⟨z2, p2⟩, ⟨z3, p3⟩, ⟨z4, p4⟩, ⟨z5, p5⟩⟩, ⟨f0, f1, f2, f3, f4, f5⟩, hl6, _, _, HS4, HO4, HKP⟩ := (HA.out.kept hk3).put hv3
  have HK4 := Lib.hid (HKP.out _ HK3.out (Nat.le_refl _))
  have HC4 : Hid (RatCell w4 (w.heap.size + 1) p) := Lib.hid (HC3.out.apartA (by omega) (HA.out.kept hk3) HO4.out)
  have HW4 := Lib.hid hw4
  clear hv3 hk3 hw4 HKP
  go_upto_region 2 with fail
  rw [← HW4.out]
  clear p0 p1 p2 p3 p4 p5 f0 f1 f2 f3 f4 f5 hl6
  obtain ⟨g1, g2, g3, g4, g5, g6, s1, s2, s3, s4, s5, s6, s7, s8, x0, x1, x2, x3, x4, x5, hlx, HXL, _, _⟩ := HS4.out.read
  obtain ⟨t1, t2, t3, t4, t5, t6, t7, y0, y1, y2, hly, HXA⟩ := HC4.out.read
  go_wp2_with fail
  refine (HC1.out _ _ _ HXL.out HXA.out).mono ?_
  rintro e w5 ⟨rfl, hk5⟩
  have HK5 := Lib.hid (HK4.out.trans hk5)
  clear x0 x1 x2 x3 x4 x5 y0 y1 y2 hlx hly
  obtain ⟨g1, g2, g3, g4, g5, g6, s1, s2, s3, s4, s5, s6, s7, s8, x0, x1, x2, x3, x4, x5, hlx, _, HXH, _⟩ := (HS4.out.kept hk5).read
  obtain ⟨t1, t2, t3, t4, t5, t6, t7, y0, y1, y2, hly, HXB⟩ := (HC4.out.kept hk5).read
  clear hk5
  go_wp2_with fail
  refine (HC2.out _ _ _ HXB.out HXH.out).mono ?_
  rintro e w6 ⟨rfl, hk6⟩
  go_wp2
  go_ret
  exact ⟨by first | rfl | simp [hT0], HK5.out.trans hk6⟩
set_option maxRecDepth 100000 in
set_option maxHeartbeats 1000000 in
theorem sinside_any (v u : Value) (a b c d : Rat) (w : World) (hv : SpanV w v (canR a) (canR b)) (hu : SpanV w u (canR c) (canR d)) (ha : (canR a).Short 200000) (hb : (canR b).Short 200000) (hc : (canR c).Short 200000) (hd : (canR d).Short 200000) (hca : c ≤ a) (hab : a ≤ b) (hbd : b ≤ d) : Calls Tryz.prog 53 #[v, u] w fun e w' => e = .returned (.bool true) ∧ Kept w w' := by
  have HNO : Hid (∀ W u, SpanV W u (canR a) (canR b) → Calls Tryz.prog 124 #[u] W fun e w' => (∃ v', e = .returned v' ∧ SpanV w' v' (canR a) (canR b)) ∧ Kept W w') := Lib.hid fun W u h => snorm_any u a b W h ha hb hab
  have HC1 : Hid (∀ W u1 u2, SpanV W u1 (canR c) (canR d) → RatAt W u2 (canR a) → Calls Tryz.prog 52 #[u1, u2] W fun e w' => e = .returned (.bool true) ∧ Kept W w') := Lib.hid fun W u1 u2 h1 h2 => scontains_any u1 u2 c d a W h1 h2 hc hd ha hca (Rat.le_trans hab hbd)
  have HC2 : Hid (∀ W u1 u2, SpanV W u1 (canR c) (canR d) → RatAt W u2 (canR b) → Calls Tryz.prog 52 #[u1, u2] W fun e w' => e = .returned (.bool true) ∧ Kept W w') := Lib.hid fun W u1 u2 h1 h2 => scontains_any u1 u2 c d b W h1 h2 hc hd hb (Rat.le_trans hca hab) hbd
  obtain ⟨lo, hlo⟩ : ∃ lo, lo = canR a := ⟨_, rfl⟩
  obtain ⟨hi, hhi⟩ : ∃ hi, hi = canR b := ⟨_, rfl⟩
  obtain ⟨lo2, hlo2⟩ : ∃ lo, lo = canR c := ⟨_, rfl⟩
  obtain ⟨hi2, hhi2⟩ : ∃ hi, hi = canR d := ⟨_, rfl⟩
  rw [← hlo, ← hhi] at HNO hv
  rw [← hlo2, ← hhi2] at HC1 HC2 hu
  rw [← hlo] at HC1
  rw [← hhi] at HC2
  clear ha hb hc hd hca hab hbd hlo hhi hlo2 hhi2
  obtain ⟨n1, l1, m1, n2, l2, m2, a1, c1, a2, c2, a3, c3, a4, c4, w1, rfl, hw1, hs1, hk1, hsv, hz1⟩ := hv.box
  obtain ⟨n3, l3, m3, n4, l4, m4, a5, c5, a6, c6, a7, c7, a8, c8, w2, rfl, hw2, hc2, hk2, hr2, hz2⟩ := (hu.kept hk1).box
  have HSV := Lib.hid (hsv.kept hk2)
  have HA := Lib.hid (hs1.kept hk2)
  have HC : Hid (SpnAt w2 (w.heap.size + 1) lo2 hi2) := Lib.hid (by rw [← hz1]; exact hc2)
  have HK2 := Lib.hid (hk1.trans hk2)
  have HW2 : Hid (w2 = (w.alloc (.cells #[.bool n1, .slice a1 l1 c1, .slice a2 m1 c2, .bool n2, .slice a3 l2 c3, .slice a4 m2 c4] 61)).alloc (.cells #[.bool n3, .slice a5 l3 c5, .slice a6 m3 c6, .bool n4, .slice a7 l4 c7, .slice a8 m4 c8] 61)) := Lib.hid (by rw [hw2, hw1])
  clear hv hu hw1 hs1 hk1 hsv hz1 hw2 hk2 hc2 hr2 hz2
  go_enter Tryz.func53, Tryz.ntmps53
  go_wp2_with fail
  rw [← HW2.out]
  refine (HNO.out _ _ HSV.out).mono ?_
  rintro e w3 ⟨⟨v3, rfl, hv3⟩, hk3⟩
  have HK3 := Lib.hid (HK2.out.trans hk3)
  have HC3 := Lib.hid (HC.out.kept hk3)
  obtain ⟨q1, q2, q3, q4, q5, q6, r1, r2, r3, r4, r5, r6, r7, r8, w4, rfl, hw4, ⟨⟨z0, p0⟩, ⟨z1, p1⟩, ⟨z2, p2⟩, ⟨z3, p3⟩, ⟨z4, p4⟩, ⟨z5, p5⟩⟩, ⟨f0, f1, f2, f3, f4, f5⟩, hl6, _, _, HS4, HO4, HKP⟩ := (HA.out.kept hk3).put hv3
  have HK4 := Lib.hid (HKP.out _ HK3.out (Nat.le_refl _))
  have HC4 : Hid (SpnAt w4 (w.heap.size + 1) lo2 hi2) := Lib.hid (ArrAt.apart HC3.out (by omega) (HA.out.kept hk3) HO4.out)
  have HW4 := Lib.hid hw4
  clear hv3 hk3 hw4 HKP
  go_upto_region 2 with fail
  rw [← HW4.out]
  clear p0 p1 p2 p3 p4 p5 f0 f1 f2 f3 f4 f5 hl6
  obtain ⟨g1, g2, g3, g4, g5, g6, s1, s2, s3, s4, s5, s6, s7, s8, x0, x1, x2, x3, x4, x5, hlx, HXL, _, _⟩ := HS4.out.read
  obtain ⟨t1, t2, t3, t4, t5, t6, e1, e2, e3, e4, e5, e6, e7, e8, y0, y1, y2, y3, y4, y5, hly, _, _, HXA⟩ := HC4.out.read
  go_wp2_with fail
  refine (HC1.out _ _ _ HXA.out HXL.out).mono ?_
  rintro e w5 ⟨rfl, hk5⟩
  have HK5 := Lib.hid (HK4.out.trans hk5)
  clear x0 x1 x2 x3 x4 x5 y0 y1 y2 y3 y4 y5 hlx hly
  obtain ⟨g1, g2, g3, g4, g5, g6, s1, s2, s3, s4, s5, s6, s7, s8, x0, x1, x2, x3, x4, x5, hlx, _, HXH, _⟩ := (HS4.out.kept hk5).read
  obtain ⟨t1, t2, t3, t4, t5, t6, e1, e2, e3, e4, e5, e6, e7, e8, y0, y1, y2, y3, y4, y5, hly, _, _, HXB⟩ := (HC4.out.kept hk5).read
  clear hk5
  go_wp2_with fail
  refine (HC2.out _ _ _ HXB.out HXH.out).mono ?_
  rintro e w6 ⟨rfl, hk6⟩
  go_wp2
  go_ret
  exact ⟨rfl, HK5.out.trans hk6⟩
set_option maxRecDepth 100000 in
set_option maxHeartbeats 1000000 in
theorem swidth_any (v : Value) (a b : Rat) (w : World) (hv : SpanV w v (canR a) (canR b)) (ha : (canR a).Short 200000) (hb : (canR b).Short 200000) (hab : a ≤ b) : Calls Tryz.prog 54 #[v] w fun e w' => (∃ v', e = .returned v' ∧ RatAt w' v' (canR (b - a))) ∧ Kept w w' := by
  have HNO : Hid (∀ W u, SpanV W u (canR a) (canR b) → Calls Tryz.prog 124 #[u] W fun e w' => (∃ v', e = .returned v' ∧ SpanV w' v' (canR a) (canR b)) ∧ Kept W w') := Lib.hid fun W u h => snorm_any u a b W h ha hb hab
  have HSB : Hid (∀ W u1 u2, RatAt W u1 (canR b) → RatAt W u2 (canR a) → Calls Tryz.prog 63 #[u1, u2] W fun e w' => (∃ v', e = .returned v' ∧ RatAt w' v' (canR (b - a))) ∧ Kept W w') := Lib.hid fun W u1 u2 k1 k2 => by
    have h := rsub_any u1 u2 _ _ W k1 k2 ⟨Nat.le_trans hb.1 (by omega), Nat.le_trans hb.2 (by omega)⟩ ⟨Nat.le_trans ha.1 (by omega), Nat.le_trans ha.2 (by omega)⟩
    rw [ratOf_can, ratOf_can] at h
    exact h
  obtain ⟨lo, hlo⟩ : ∃ lo, lo = canR a := ⟨_, rfl⟩
  obtain ⟨hi, hhi⟩ : ∃ hi, hi = canR b := ⟨_, rfl⟩
  rw [← hlo, ← hhi] at HNO HSB hv
  clear ha hb hab hlo hhi
  obtain ⟨n1, l1, m1, n2, l2, m2, a1, c1, a2, c2, a3, c3, a4, c4, w1, rfl, hw1, hs1, hk1, hsv, hz1⟩ := hv.box
  obtain ⟨w2, hw2⟩ : ∃ w2, w2 = w1.alloc (.cells #[.bool false, .slice none 0 0, .slice none 0 0] 39) := ⟨_, rfl⟩
  have HC : Hid (RatCell w2 (w.heap.size + 1) ⟨false, [], []⟩) := Lib.hid (by rw [hw2, ← hz1]; exact RatCell.zero w1)
  have hk2 : Kept w1 w2 := by rw [hw2]; exact (Kept.refl _).alloc _
  have HSV := Lib.hid (hsv.kept hk2)
  have HA := Lib.hid (hs1.kept hk2)
  have HK2 := Lib.hid (hk1.trans hk2)
  have HW2 : Hid (w2 = (w.alloc (.cells #[.bool n1, .slice a1 l1 c1, .slice a2 m1 c2, .bool n2, .slice a3 l2 c3, .slice a4 m2 c4] 61)).alloc (.cells #[.bool false, .slice none 0 0, .slice none 0 0] 39)) := Lib.hid (by rw [hw2, hw1])
  clear hv hw1 hs1 hk1 hsv hz1 hw2 hk2
  go_enter Tryz.func54, Tryz.ntmps54
  go_wp2_with fail
  rw [← HW2.out]
  refine (HNO.out _ _ HSV.out).mono ?_
  rintro e w3 ⟨⟨v3, rfl, hv3⟩, hk3⟩
  have HK3 := Lib.hid (HK2.out.trans hk3)
  have HC3 := Lib.hid (HC.out.kept hk3)
  obtain ⟨q1, q2, q3, q4, q5, q6, r1, r2, r3, r4, r5, r6, r7, r8, w4, rfl, hw4, ⟨⟨z0, p0⟩, ⟨z1, p1⟩, ⟨z2, p2⟩, ⟨z3, p3⟩, ⟨z4, p4⟩, ⟨z5, p5⟩⟩, ⟨f0, f1, f2, f3, f4, f5⟩, hl6, _, _, HS4, HO4, HKP⟩ := (HA.out.kept hk3).put hv3
  have HK4 := Lib.hid (HKP.out _ HK3.out (Nat.le_refl _))
  have HC4 : Hid (RatCell w4 (w.heap.size + 1) ⟨false, [], []⟩) := Lib.hid (HC3.out.apartA (by omega) (HA.out.kept hk3) HO4.out)
  have HW4 := Lib.hid hw4
  clear hv3 hk3 hw4 HKP
  go_upto_region 2 with fail
  rw [← HW4.out]
  clear p0 p1 p2 p3 p4 p5 f0 f1 f2 f3 f4 f5 hl6
  obtain ⟨g1, g2, g3, g4, g5, g6, s1, s2, s3, s4, s5, s6, s7, s8, x0, x1, x2, x3, x4, x5, hlx, HXL, HXH, _⟩ := HS4.out.read
  go_wp2_with fail
  refine (HSB.out _ _ _ HXH.out HXL.out).mono ?_
  rintro e w5 ⟨⟨v5, rfl, hv5⟩, hk5⟩
  have HK5 := Lib.hid (HK4.out.trans hk5)
  clear x0 x1 x2 x3 x4 x5 hlx
  obtain ⟨n5, l5, m5, b1, d1, b2, d2, w6, rfl, hw6, ⟨⟨z0, p0⟩, ⟨z1, p1⟩, ⟨z2, p2⟩⟩, ⟨f0, f1, f2⟩, hl6, Y, HRV, _, HKP⟩ := (HC4.out.kept hk5).save hv5
  have HKE := Lib.hid (HKP.out _ HK5.out (by omega))
  rw [hw6] at Y HRV HKE
  clear hv5 hk5 hw6 HKP
  go_wp2
  refine bodyPost_ret (v := .agg #[.bool n5, .slice b1 l5 d1, .slice b2 m5 d2]) ?_ rfl ⟨⟨_, rfl, HRV.out⟩, HKE.out⟩
  simp [results, Tryz.results54, go_sem, Y.out.1, Y.out.2.1, Y.out.2.2]
set_option maxRecDepth 100000 in
set_option maxHeartbeats 1000000 in
theorem stext_any (v : Value) (a b : Rat) (la lb : List UInt8) (w : World) (hv : SpanV w v (canR a) (canR b)) (hab : a ≤ b) (ha : (canR a).Short 200000) (hb : (canR b).Short 200000)
    (hta : ∀ W u, RatAt W u (canR a) → Calls Tryz.prog 83 #[u] W fun e w' => e = .returned (.string ⟨la.toArray⟩) ∧ Kept W w') (htb : ∀ W u, RatAt W u (canR b) → Calls Tryz.prog 83 #[u] W fun e w' => e = .returned (.string ⟨lb.toArray⟩) ∧ Kept W w') (hla : la.length ≤ 100) (hlb : lb.length ≤ 100) :
    Calls Tryz.prog 50 #[v] w fun e w' => e = .returned (.string ⟨(la ++ [46, 46] ++ lb).toArray⟩) ∧ Kept w w' := by
  have HNO : Hid (∀ W u, SpanV W u (canR a) (canR b) → Calls Tryz.prog 124 #[u] W fun e w' => (∃ v', e = .returned v' ∧ SpanV w' v' (canR a) (canR b)) ∧ Kept W w') := Lib.hid fun W u h => snorm_any u a b W h ha hb hab
  have HTA := Lib.hid hta
  have HTB := Lib.hid htb
  obtain ⟨lo, hlo⟩ : ∃ lo, lo = canR a := ⟨_, rfl⟩
  obtain ⟨hi, hhi⟩ : ∃ hi, hi = canR b := ⟨_, rfl⟩
  rw [← hlo, ← hhi] at HNO hv
  rw [← hlo] at HTA
  rw [← hhi] at HTB
  have HS : Hid (((⟨la.toArray⟩ : ByteArray) ++ (⟨#[46, 46]⟩ : ByteArray)) ++ ⟨lb.toArray⟩ = ⟨(la ++ [46, 46] ++ lb).toArray⟩) := Lib.hid (by
    apply ByteArray.ext
    rw [ByteArray.data_append, ByteArray.data_append]
    apply Array.toList_inj.1
    simp)
  have hz1 : ¬ 9223372036854775807 < la.length + 2 := by omega
  have hz2 : ¬ 9223372036854775807 < la.length + 2 + lb.length := by omega
  clear ha hb hab hlo hhi hta htb hla hlb
  obtain ⟨n1, l1, m1, n2, l2, m2, a1, c1, a2, c2, a3, c3, a4, c4, w1, rfl, hw1, hs1, hk1, hsv, hz1⟩ := hv.box
  have HSV := Lib.hid hsv
  have HA := Lib.hid hs1
  have HK2 := Lib.hid hk1
  have HW2 := Lib.hid hw1
  clear hv hw1 hs1 hk1 hsv hz1
  go_enter Tryz.func50, Tryz.ntmps50
  go_wp2_with fail
  rw [← HW2.out]
  refine (HNO.out _ _ HSV.out).mono ?_
  rintro e w3 ⟨⟨v3, rfl, hv3⟩, hk3⟩
  have HK3 := Lib.hid (HK2.out.trans hk3)
  obtain ⟨q1, q2, q3, q4, q5, q6, r1, r2, r3, r4, r5, r6, r7, r8, w4, rfl, hw4, ⟨⟨z0, p0⟩, ⟨z1, p1⟩, ⟨z2, p2⟩, ⟨z3, p3⟩, ⟨z4, p4⟩, ⟨z5, p5⟩⟩, ⟨f0, f1, f2, f3, f4, f5⟩, hl6, _, _, HS4, HO4, HKP⟩ := (HA.out.kept hk3).put hv3
  have HK4 := Lib.hid (HKP.out _ HK3.out (Nat.le_refl _))
  have HW4 := Lib.hid hw4
  clear hv3 hk3 hw4 HKP
  go_upto_region 2 with fail
  rw [← HW4.out]
  clear p0 p1 p2 p3 p4 p5 f0 f1 f2 f3 f4 f5 hl6
  obtain ⟨g1, g2, g3, g4, g5, g6, s1, s2, s3, s4, s5, s6, s7, s8, x0, x1, x2, x3, x4, x5, hlx, HXL, HXH, _⟩ := HS4.out.read
  go_region_held3 (fun w' => w'.cell? ⟨w.heap.size, 0, none⟩ = some (.bool g1) ∧ w'.cell? ⟨w.heap.size, 1, none⟩ = some (.slice s1 g2 s2) ∧ w'.cell? ⟨w.heap.size, 2, none⟩ = some (.slice s3 g3 s4) ∧ w'.cell? ⟨w.heap.size, 3, none⟩ = some (.bool g4) ∧ w'.cell? ⟨w.heap.size, 4, none⟩ = some (.slice s5 g5 s6) ∧ w'.cell? ⟨w.heap.size, 5, none⟩ = some (.slice s7 g6 s8))
    ((refine (fun hq : Kept w4 _ => ⟨hq.cell x0, hq.cell x1, hq.cell x2, hq.cell x3, hq.cell x4, hq.cell x5⟩) ?_; repeat (with_reducible first | exact HKB.out | exact HKA.out | exact Kept.refl _ | apply Kept.drew)))
    (first
    | (go_at_call 83; (with_reducible refine (HTA.out _ _ (HXL.out.kept (by repeat (with_reducible first | exact Kept.refl _ | apply Kept.drew)))).mono ?_); rintro e w5 ⟨rfl, hk5⟩; have HKA : Hid (Kept w4 w5) := Lib.hid ((Kept.refl w4).drew.trans hk5); clear hk5)
    | (go_at_call 83; (with_reducible refine (HTB.out _ _ (HXH.out.kept (by repeat (with_reducible first | exact HKA.out | apply Kept.drew)))).mono ?_); rintro e w6 ⟨rfl, hk6⟩; have HKB : Hid (Kept w4 w6) := Lib.hid (HKA.out.trans (by first | exact hk6 | exact (Kept.refl _).drew.trans hk6)); clear hk6))
  all_goals go_wp2
  all_goals go_ret
  all_goals exact ⟨by rw [← HS.out]; rfl, HK4.out.trans HKB.out⟩
end Go.Proofs.YtbkchheikkbebaaGreatDoor

/-
  Walks: the weight of a cube, of disjoint and of the reference. Printed by gen_I9.py.
-/
namespace Go.Proofs.YtbkchheikkbebaaGreatDoor
open Go.RowKit

theorem qOf_short {ps : List Rw} (hs : ∀ r ∈ ps, r.Short 3) {k : Nat} (hk : k < ps.length) : (ps.getD k default).Short 3 := by
  have e : ps.getD k default = ps[k] := by simp [List.getD_eq_getElem?_getD, hk]
  rw [e]; exact hs _ (List.getElem_mem hk)
theorem qOf_ok {ps : List Rw} (hs : ∀ r ∈ ps, r.Ok) {k : Nat} (hk : k < ps.length) : (ps.getD k default).Ok := by
  have e : ps.getD k default = ps[k] := by simp [List.getD_eq_getElem?_getD, hk]
  rw [e]; exact hs _ (List.getElem_mem hk)
theorem ratOf_one : ratOf (canR ((1 : Int) : Rat)) = 1 := by rw [ratOf_can]; rfl
theorem not_short {ps : List Rw} (hs : ∀ r ∈ ps, r.Short 3) (hok : ∀ r ∈ ps, r.Ok) {k : Nat} (hk : k < ps.length) : (canR (1 - qOf ps k)).Short 6 := by
  have h1 := short_neg (qOf_ok hok hk) (qOf_short hs hk) (by omega)
  have h := short_add (canR_ok ((1 : Int) : Rat)) (canR_ok (- ratOf (ps.getD k default))) one_short h1 (by omega) (by omega)
  rw [ratOf_one, ratOf_can, ← Rat.sub_eq_add_neg] at h
  exact ⟨Nat.le_trans h.1 (by omega), Nat.le_trans h.2 (by omega)⟩
set_option maxRecDepth 100000 in
set_option maxHeartbeats 16000000 in
theorem dweight_any (y n : Nat) (v : Value) (ps : List Rw) (w : World) (hy : y < 16777216) (hn : n < 16777216) (hv : RatsAt w v ps) (hp3 : ∀ r ∈ ps, r.Short 3) (hp30 : ps.length ≤ 30) :
    Calls Tryz.prog 168 #[.agg #[.int .i64 y, .int .i64 n], v] w fun e w' => (∃ v', e = .returned v' ∧ RatAt w' v' (canR (wQs ps (y, n) ps.length))) ∧ Kept w w' := by
  have HOF : Hid (∀ W, Calls Tryz.prog 55 #[.int .i64 1] W fun e w' => (∃ v', e = .returned v' ∧ RatAt w' v' (canR ((1 : Int) : Rat))) ∧ Kept W w') := Lib.hid fun W => rof_any 1 W (by omega) (by omega)
  have HHY := Lib.hid (fun (i : Nat) W => hasS_any y i hy W)
  have HHN := Lib.hid (fun (i : Nat) W => hasS_any n i hn W)
  have HSH := Lib.hid (fun k hk => wQ_short (c := (y, n)) hp3 hv.ok k hk)
  have HP3 := Lib.hid hp3
  have HOK := Lib.hid hv.ok
  have HV := Lib.hid hv
  obtain ⟨a, c, rfl⟩ := hv.shape
  obtain ⟨m, hm⟩ : ∃ m, m = ps.length := ⟨_, rfl⟩
  rw [← hm] at HV hp30 ⊢
  have HN := Lib.hid hm
  obtain ⟨R, hR⟩ : ∃ R, R = canR (wQs ps (y, n) m) := ⟨_, rfl⟩
  rw [← hR]
  have HRR := Lib.hid hR
  obtain ⟨w2, hw2⟩ : ∃ w2, w2 = (w.alloc (.cells #[.int .i64 y, .int .i64 n] 55)).alloc (.cells #[.bool false, .slice none 0 0, .slice none 0 0] 39) := ⟨_, rfl⟩
  have hbx := (RowAt.made w #[.int .i64 (y : Int), .int .i64 (n : Int)] 55).kept ((Kept.refl _).alloc (.cells #[.bool false, .slice none 0 0, .slice none 0 0] 39))
  have HMD := Lib.hid (res_made w (.cells #[.int .i64 y, .int .i64 n] 55))
  rw [← hw2] at hbx HMD
  have HW2 := Lib.hid hw2
  have b0 := hbx.cell (i := 0) (by simp)
  have b1 := hbx.cell (i := 1) (by simp)
  simp only [List.getElem_cons_succ, List.getElem_cons_zero] at b0 b1
  have HBB := Lib.hid (And.intro b0 b1)
  clear hm hv hp3 hy hn hw2 hbx hR b0 b1
  go_enter Tryz.func168, Tryz.ntmps168
  go_wp2_with fail
  rw [← HW2.out]
  refine (HOF.out _).mono ?_
  rintro e w3 ⟨⟨v3, rfl, hv3⟩, hk3⟩
  have HR3 := Lib.hid (HMD.out.1.kept hk3)
  have HF3 := Lib.hid (HMD.out.2.1.kept hk3)
  have HK3 := Lib.hid (HMD.out.2.2.trans hk3)
  have HC3 := Lib.hid (And.intro (hk3.cell HBB.out.1) (hk3.cell HBB.out.2))
  obtain ⟨u1, u2, rfl, h1, h2⟩ := hv3
  obtain ⟨a1, c1, rfl⟩ := h1.shape
  obtain ⟨a2, c2, rfl⟩ := h2.shape
  have HC : Hid (RatCell (w3.alloc (.cells #[.bool (canR ((1 : Int) : Rat)).neg, .slice a1 (canR ((1 : Int) : Rat)).num.length c1, .slice a2 (canR ((1 : Int) : Rat)).den.length c2] 39)) w3.heap.size (canR (wQs ps (y, n) 0))) := Lib.hid (RatCell.made h1 h2)
  obtain ⟨w4, hw4⟩ : ∃ w4, w4 = w3.alloc (.cells #[.bool (canR ((1 : Int) : Rat)).neg, .slice a1 (canR ((1 : Int) : Rat)).num.length c1, .slice a2 (canR ((1 : Int) : Rat)).den.length c2] 39) := ⟨_, rfl⟩
  have HW4 := Lib.hid hw4
  rw [← hw4] at HC
  have HK4 : Hid (Kept w3 w4) := Lib.hid (by rw [hw4]; exact (Kept.refl _).alloc _)
  generalize hg1 : (canR ((1 : Int) : Rat)).neg = o1 at HW4 ⊢
  generalize hg2 : (canR ((1 : Int) : Rat)).num.length = o2 at HW4 ⊢
  generalize hg3 : (canR ((1 : Int) : Rat)).den.length = o3 at HW4 ⊢
  clear h1 h2 hk3 hw4 hg1 hg2 hg3
  go_wp2_with fail
  rw [← HW4.out]
  go_loopg [11] m (fun kx s11 wr => ∃ k : Nat, k ≤ m ∧ s11 = .int .i64 k ∧ m - k ≤ kx ∧ Hid (RatCell wr w3.heap.size (canR (wQs ps (y, n) k))) ∧ Hid (Kept w3 wr))
  case atStart => exact ⟨0, Nat.zero_le _, rfl, by omega, HC, HK4⟩
  case round =>
    obtain ⟨k, hk, rfl, hkx, HX, HKr⟩ := hrel
    by_cases hlt : k < m
    · have hkn : (k : Int) < (m : Int) := by omega
      have hkl : k < ps.length := by have := HN.out; omega
      have HQS := Lib.hid (qOf_short HP3.out hkl)
      have HNS := Lib.hid (not_short HP3.out HOK.out hkl)
      have HXS := Lib.hid (HSH.out k (by omega))
      obtain ⟨b, o, u1, u2, rfl, hrg, hw1, hw2⟩ := HV.out.get k hkl
      obtain ⟨a3, c3, rfl⟩ := hw1.shape
      obtain ⟨a4, c4, rfl⟩ := hw2.shape
      have HKw := Lib.hid (HK3.out.trans HKr.out)
      have hrg2 := range_same hrg HKw.out
      have y0 := hrg2 0 _ rfl
      have y1 := hrg2 1 _ rfl
      have y2 := hrg2 2 _ rfl
      rw [Nat.add_zero] at y0
      obtain ⟨qn, hqn⟩ : ∃ qn, qn = (ps.getD k default).neg := ⟨_, rfl⟩
      obtain ⟨ql1, hql1⟩ : ∃ ql1, ql1 = (ps.getD k default).num.length := ⟨_, rfl⟩
      obtain ⟨ql2, hql2⟩ : ∃ ql2, ql2 = (ps.getD k default).den.length := ⟨_, rfl⟩
      have HQV : Hid (∀ W, Kept w3 W → RatAt W (.agg #[.bool qn, .slice a3 ql1 c3, .slice a4 ql2 c4]) (ps.getD k default)) := Lib.hid fun W h => ⟨_, _, by rw [hqn, hql1, hql2], hw1.kept (HK3.out.trans h), hw2.kept (HK3.out.trans h)⟩
      rw [← hqn] at y0
      rw [← hql1] at y1
      rw [← hql2] at y2
      have HSB : Hid (∀ W u1 u2, RatAt W u1 (canR ((1 : Int) : Rat)) → RatAt W u2 (ps.getD k default) → Calls Tryz.prog 63 #[u1, u2] W fun e w' => (∃ v', e = .returned v' ∧ RatAt w' v' (canR (1 - qOf ps k))) ∧ Kept W w') := Lib.hid fun W u1 u2 h1 h2 => by
        have h := rsub_any u1 u2 _ _ W h1 h2 ⟨Nat.le_trans one_short.1 (by omega), Nat.le_trans one_short.2 (by omega)⟩ ⟨Nat.le_trans HQS.out.1 (by omega), Nat.le_trans HQS.out.2 (by omega)⟩
        rw [ratOf_one] at h
        exact h
      have k0 := HKr.out.cell HC3.out.1
      obtain ⟨wo, rfl⟩ : ∃ wo : World, wo = wr := ⟨_, rfl⟩
      obtain ⟨w5, hw5⟩ : ∃ w5, w5 = wo.alloc (.cells #[.bool qn, .slice a3 ql1 c3, .slice a4 ql2 c4] 39) := ⟨_, rfl⟩
      have HK5 : Hid (Kept wo w5) := Lib.hid (by rw [hw5]; exact (Kept.refl _).alloc _)
      have HX5 := Lib.hid (HX.out.kept HK5.out)
      have HQ5 : Hid (RowAt w5 wo.heap.size 39 [.bool qn, .slice a3 ql1 c3, .slice a4 ql2 c4]) := Lib.hid (by rw [hw5]; exact RowAt.made wo #[.bool qn, .slice a3 ql1 c3, .slice a4 ql2 c4] 39)
      have HK35 := Lib.hid (HKr.out.trans HK5.out)
      have HNE : Hid (wo.heap.size ≠ w3.heap.size) := Lib.hid (by have := HX.out; obtain ⟨_, _, _, _, h, _⟩ := this; have := h.lt; omega)
      have k01 := HKr.out.cell HC3.out.2
      have k05 := HK5.out.cell k0
      have k15 := HK5.out.cell k01
      have hc3 := World.block_lt_of_cell? _ _ HC3.out.1
      have hcl5 := World.block_lt_of_cell? _ _ k05
      have HW5 := Lib.hid hw5
      clear hrg hrg2 hw1 hw2 hqn hql1 hql2 hw5
      have hcl0 := World.block_lt_of_cell? _ _ k0
      cases hb1 : y.testBit k with
      | false =>
        have HCH1 : Hid (∀ W, Calls Tryz.prog 200 #[.int .i64 y, .int .i64 k] W fun e w' => e = .returned (.bool false) ∧ w' = W) := Lib.hid fun W => by have h := HHY.out k W; rw [hb1] at h; exact h
        obtain ⟨Yk, hYk⟩ : ∃ Yk, Yk = wQs ps (y, n) k := ⟨_, rfl⟩
        have HS2 : Hid (wQs ps (y, n) (k + 1) = Yk * if n.testBit k = true then 1 - qOf ps k else 1) := Lib.hid (by
          rw [hYk]
          show (wQ (qOf ps) (y, n) k * (if y.testBit k = true then qOf ps k else 1)) * _ = _
          rw [if_neg (by rw [hb1]; simp), Rat.mul_one]
          rfl)
        have HYS : Hid ((canR Yk).Short (12 * k + 7)) := Lib.hid (by rw [hYk]; exact ⟨Nat.le_trans HXS.out.1 (by omega), Nat.le_trans HXS.out.2 (by omega)⟩)
        rw [← hYk] at HX5
        have HXW := HX5
        have HKX := HK35
        have HQW := HQ5
        clear hb1 hYk
        go_wp2_with (go_at_call 200; (with_reducible refine (HCH1.out _).mono ?_); rintro e w6 ⟨rfl, h6⟩; rw [h6, ← HW5.out]; clear h6)
        obtain ⟨a5, c5, a6, c6, ⟨x0, x1, x2⟩, ⟨f0, f1, f2⟩, hgl, hxa⟩ := HXW.out.at
        have HXA := Lib.hid hxa
        have q0 := HQW.out.cell (i := 0) (by simp)
        have q1 := HQW.out.cell (i := 1) (by simp)
        have q2 := HQW.out.cell (i := 2) (by simp)
        simp only [List.getElem_cons_succ, List.getElem_cons_zero] at q0 q1 q2
        have hql := HQW.out.lt
        have k1 := HKX.out.cell HC3.out.2
        have hcl := World.block_lt_of_cell? _ _ k1
        generalize (canR Yk).neg = z3 at *
        generalize (canR Yk).num.length = z4 at *
        generalize (canR Yk).den.length = z5 at *
        clear hxa
        cases hb2 : n.testBit k with
        | false =>
          have HCH2 : Hid (∀ W, Calls Tryz.prog 200 #[.int .i64 n, .int .i64 k] W fun e w' => e = .returned (.bool false) ∧ w' = W) := Lib.hid fun W => by have h := HHN.out k W; rw [hb2] at h; exact h
          have HE : Hid (canR (wQs ps (y, n) (k + 1)) = canR Yk) := Lib.hid (by rw [HS2.out, if_neg (by rw [hb2]; simp), Rat.mul_one])
          clear hb2
          refine (HCH2.out _).mono ?_
          rintro e w8 ⟨rfl, h8⟩
          rw [h8]
          clear h8
          go_wp2_with fail
          go_roundg (m - (k + 1))
          case measure => omega
          case rel => exact ⟨k + 1, by omega, by go_num, Nat.le_refl _, Lib.hid (by rw [HE.out]; exact HXW.out), HKX⟩
        | true =>
          have HCH2 : Hid (∀ W, Calls Tryz.prog 200 #[.int .i64 n, .int .i64 k] W fun e w' => e = .returned (.bool true) ∧ w' = W) := Lib.hid fun W => by have h := HHN.out k W; rw [hb2] at h; exact h
          have HE : Hid (canR (wQs ps (y, n) (k + 1)) = canR (ratOf (canR Yk) * ratOf (canR (1 - qOf ps k)))) := Lib.hid (by rw [HS2.out, if_pos hb2, ratOf_can, ratOf_can])
          have HM2 : Hid (∀ W u1 u2, RatAt W u1 (canR Yk) → RatAt W u2 (canR (1 - qOf ps k)) → Calls Tryz.prog 64 #[u1, u2] W fun e w' => (∃ v', e = .returned v' ∧ RatAt w' v' (canR (wQs ps (y, n) (k + 1)))) ∧ Kept W w') := Lib.hid fun W u1 u2 h1 h2 => by
            rw [HE.out]
            exact rmul_any u1 u2 _ _ W h1 h2 ⟨Nat.le_trans HYS.out.1 (by omega), Nat.le_trans HYS.out.2 (by omega)⟩ ⟨Nat.le_trans HNS.out.1 (by omega), Nat.le_trans HNS.out.2 (by omega)⟩
          clear hb2
          have HQR : Hid (∀ W, Kept w5 W → RatAt W (.agg #[.bool qn, .slice a3 ql1 c3, .slice a4 ql2 c4]) (ps.getD k default)) := Lib.hid fun W h => HQV.out W (HKX.out.trans h)
          refine (HCH2.out _).mono ?_
          rintro e w8 ⟨rfl, h8⟩
          rw [h8]
          clear h8
          go_wp2_with fail
          go_region_with (first
            | (go_at_call 55; (with_reducible refine (HOF.out _).mono ?_); rintro e w8 ⟨⟨v8, rfl, hv8⟩, hk8⟩; have hkd := (Kept.refl w5).drew.trans hk8; have i0 := hkd.cell x0; have i1 := hkd.cell x1; have i2 := hkd.cell x2; have j0 := hkd.cell q0; have j1 := hkd.cell q1; have j2 := hkd.cell q2; have HX8 := Lib.hid (HXW.out.kept hkd); have HXA8 := Lib.hid (HXA.out.kept hkd); have HQ8 := Lib.hid (HQR.out _ hkd); have HK8 := Lib.hid (HKX.out.trans hkd); have HV8 := Lib.hid hv8; clear hk8 hkd hv8)
            | (go_at_call 63; (with_reducible refine (HSB.out _ _ _ HV8.out HQ8.out).mono ?_); rintro e w9 ⟨⟨v9, rfl, hv9⟩, hk9⟩; have l0 := hk9.cell i0; have l1 := hk9.cell i1; have l2 := hk9.cell i2; have HX9 := Lib.hid (HX8.out.kept hk9); have HXA9 := Lib.hid (HXA8.out.kept hk9); have HK9 := Lib.hid (HK8.out.trans hk9); have HV9 := Lib.hid hv9; clear hk9 hv9)
            | (go_at_call 64; (with_reducible refine (HM2.out _ _ _ HXA9.out HV9.out).mono ?_); rintro e w7 ⟨⟨v7, rfl, hv7⟩, hk7⟩; have HX7 := Lib.hid (HX9.out.kept hk7); have HK7 := Lib.hid (HK9.out.trans hk7); obtain ⟨u7, u8, rfl, k7, k8⟩ := hv7; obtain ⟨a7, c7, rfl⟩ := k7.shape; obtain ⟨a8, c8, rfl⟩ := k8.shape; have K7 := Lib.hid k7; have K8 := Lib.hid k8; obtain ⟨_, _, _, _, ⟨t0, t1, t2⟩, ⟨j0, j1, j2⟩, hgl6, _⟩ := HX7.out.at; clear k7 k8 hk7))
          all_goals
            have HS := Lib.hid (HX7.out.store K7.out K8.out)
            generalize (canR (wQs ps (y, n) (k + 1))).num.length = n7 at *
            generalize (canR (wQs ps (y, n) (k + 1))).den.length = n8 at *
            go_wp2_with fail
            go_roundg (m - (k + 1))
            case measure => omega
            case rel => exact ⟨k + 1, by omega, by go_num, Nat.le_refl _, HS, Lib.hid (((HK7.out.store (Nat.le_refl _) _ _).store (Nat.le_refl _) _ _).store (Nat.le_refl _) _ _)⟩
      | true =>
        have HCH1 : Hid (∀ W, Calls Tryz.prog 200 #[.int .i64 y, .int .i64 k] W fun e w' => e = .returned (.bool true) ∧ w' = W) := Lib.hid fun W => by have h := HHY.out k W; rw [hb1] at h; exact h
        obtain ⟨Yk, hYk⟩ : ∃ Yk, Yk = wQs ps (y, n) k * qOf ps k := ⟨_, rfl⟩
        have HS2 : Hid (wQs ps (y, n) (k + 1) = Yk * if n.testBit k = true then 1 - qOf ps k else 1) := Lib.hid (by
          rw [hYk]
          show (wQ (qOf ps) (y, n) k * (if y.testBit k = true then qOf ps k else 1)) * _ = _
          rw [if_pos hb1]
          rfl)
        have HYS : Hid ((canR Yk).Short (12 * k + 7)) := Lib.hid (by
          have h := short_mul (canR_ok (wQs ps (y, n) k)) (qOf_ok HOK.out hkl) HXS.out HQS.out (by omega) (by omega)
          rw [ratOf_can] at h
          rw [hYk]
          exact ⟨Nat.le_trans h.1 (by omega), Nat.le_trans h.2 (by omega)⟩)
        have HM1 : Hid (∀ W u1 u2, RatAt W u1 (canR (wQs ps (y, n) k)) → RatAt W u2 (ps.getD k default) → Calls Tryz.prog 64 #[u1, u2] W fun e w' => (∃ v', e = .returned v' ∧ RatAt w' v' (canR Yk)) ∧ Kept W w') := Lib.hid fun W u1 u2 h1 h2 => by
          have h := rmul_any u1 u2 _ _ W h1 h2 ⟨Nat.le_trans HXS.out.1 (by omega), Nat.le_trans HXS.out.2 (by omega)⟩ ⟨Nat.le_trans HQS.out.1 (by omega), Nat.le_trans HQS.out.2 (by omega)⟩
          rw [ratOf_can] at h
          rw [hYk]
          exact h
        obtain ⟨a5, c5, a6, c6, ⟨x0, x1, x2⟩, ⟨f0, f1, f2⟩, hgl, hxa⟩ := HX5.out.at
        have HXA := Lib.hid hxa
        have q0 := HQ5.out.cell (i := 0) (by simp)
        have q1 := HQ5.out.cell (i := 1) (by simp)
        have q2 := HQ5.out.cell (i := 2) (by simp)
        simp only [List.getElem_cons_succ, List.getElem_cons_zero] at q0 q1 q2
        have HQR := Lib.hid (HQV.out w5 HK35.out)
        generalize (canR (wQs ps (y, n) k)).neg = z0 at *
        generalize (canR (wQs ps (y, n) k)).num.length = z1 at *
        generalize (canR (wQs ps (y, n) k)).den.length = z2 at *
        clear hb1 hYk hxa
        go_wp2_with (go_at_call 200; (with_reducible refine (HCH1.out _).mono ?_); rintro e w6 ⟨rfl, h6⟩; rw [h6, ← HW5.out]; clear h6)
        refine (HM1.out _ _ _ HXA.out HQR.out).mono ?_
        rintro e w6 ⟨⟨v6, rfl, hv6⟩, hk6⟩
        have HX6 := Lib.hid (HX5.out.kept hk6)
        have HK6 := Lib.hid (HK35.out.trans hk6)
        have HQ6 := Lib.hid (HQ5.out.kept hk6)
        have k06 := hk6.cell k05
        have k16 := hk6.cell k15
        have hn3 : ¬ w.heap.size = w3.heap.size := by omega
        obtain ⟨u7, u8, rfl, k7, k8⟩ := hv6
        obtain ⟨a7, c7, rfl⟩ := k7.shape
        obtain ⟨a8, c8, rfl⟩ := k8.shape
        obtain ⟨_, _, _, _, ⟨i0, i1, i2⟩, ⟨j0, j1, j2⟩, hgl6, _⟩ := HX6.out.at
        have HS := Lib.hid (HX6.out.store k7 k8)
        have HKS := Lib.hid (((HK6.out.store (Nat.le_refl _) 0 (.bool (canR Yk).neg)).store (Nat.le_refl _) 1 (.slice a7 (canR Yk).num.length c7)).store (Nat.le_refl _) 2 (.slice a8 (canR Yk).den.length c8))
        have HQS6 := Lib.hid ((OnlyAt.row ((((OnlyAt.refl w3.heap.size w6).store 0 (.bool (canR Yk).neg)).store 1 (.slice a7 (canR Yk).num.length c7)).store 2 (.slice a8 (canR Yk).den.length c8)) HQ6.out HNE.out))
        obtain ⟨w7, hw7⟩ : ∃ w7, w7 = ((w6.setCell ⟨w3.heap.size, 0, none⟩ (.bool (canR Yk).neg)).setCell ⟨w3.heap.size, 1, none⟩ (.slice a7 (canR Yk).num.length c7)).setCell ⟨w3.heap.size, 2, none⟩ (.slice a8 (canR Yk).den.length c8) := ⟨_, rfl⟩
        rw [← hw7] at HS HKS HQS6
        have HW7 := Lib.hid hw7
        have HXW := HS
        have HKX := HKS
        have HQW := HQS6
        generalize (canR Yk).neg = z6 at HW7 ⊢
        generalize (canR Yk).num.length = z7 at HW7 ⊢
        generalize (canR Yk).den.length = z8 at HW7 ⊢
        clear k7 k8 hk6 hw7 x0 x1 x2 f0 f1 f2 hgl q0 q1 q2
        go_wp2_with fail
        rw [← HW7.out]
        obtain ⟨a5, c5, a6, c6, ⟨x0, x1, x2⟩, ⟨f0, f1, f2⟩, hgl, hxa⟩ := HXW.out.at
        have HXA := Lib.hid hxa
        have q0 := HQW.out.cell (i := 0) (by simp)
        have q1 := HQW.out.cell (i := 1) (by simp)
        have q2 := HQW.out.cell (i := 2) (by simp)
        simp only [List.getElem_cons_succ, List.getElem_cons_zero] at q0 q1 q2
        have hql := HQW.out.lt
        have k1 := HKX.out.cell HC3.out.2
        have hcl := World.block_lt_of_cell? _ _ k1
        generalize (canR Yk).neg = z3 at *
        generalize (canR Yk).num.length = z4 at *
        generalize (canR Yk).den.length = z5 at *
        clear hxa
        cases hb2 : n.testBit k with
        | false =>
          have HCH2 : Hid (∀ W, Calls Tryz.prog 200 #[.int .i64 n, .int .i64 k] W fun e w' => e = .returned (.bool false) ∧ w' = W) := Lib.hid fun W => by have h := HHN.out k W; rw [hb2] at h; exact h
          have HE : Hid (canR (wQs ps (y, n) (k + 1)) = canR Yk) := Lib.hid (by rw [HS2.out, if_neg (by rw [hb2]; simp), Rat.mul_one])
          clear hb2
          refine (HCH2.out _).mono ?_
          rintro e w8 ⟨rfl, h8⟩
          rw [h8]
          clear h8
          go_wp2_with fail
          go_roundg (m - (k + 1))
          case measure => omega
          case rel => exact ⟨k + 1, by omega, by go_num, Nat.le_refl _, Lib.hid (by rw [HE.out]; exact HXW.out), HKX⟩
        | true =>
          have HCH2 : Hid (∀ W, Calls Tryz.prog 200 #[.int .i64 n, .int .i64 k] W fun e w' => e = .returned (.bool true) ∧ w' = W) := Lib.hid fun W => by have h := HHN.out k W; rw [hb2] at h; exact h
          have HE : Hid (canR (wQs ps (y, n) (k + 1)) = canR (ratOf (canR Yk) * ratOf (canR (1 - qOf ps k)))) := Lib.hid (by rw [HS2.out, if_pos hb2, ratOf_can, ratOf_can])
          have HM2 : Hid (∀ W u1 u2, RatAt W u1 (canR Yk) → RatAt W u2 (canR (1 - qOf ps k)) → Calls Tryz.prog 64 #[u1, u2] W fun e w' => (∃ v', e = .returned v' ∧ RatAt w' v' (canR (wQs ps (y, n) (k + 1)))) ∧ Kept W w') := Lib.hid fun W u1 u2 h1 h2 => by
            rw [HE.out]
            exact rmul_any u1 u2 _ _ W h1 h2 ⟨Nat.le_trans HYS.out.1 (by omega), Nat.le_trans HYS.out.2 (by omega)⟩ ⟨Nat.le_trans HNS.out.1 (by omega), Nat.le_trans HNS.out.2 (by omega)⟩
          clear hb2
          have HQR : Hid (∀ W, Kept w7 W → RatAt W (.agg #[.bool qn, .slice a3 ql1 c3, .slice a4 ql2 c4]) (ps.getD k default)) := Lib.hid fun W h => HQV.out W (HKX.out.trans h)
          refine (HCH2.out _).mono ?_
          rintro e w8 ⟨rfl, h8⟩
          rw [h8]
          clear h8
          go_wp2_with fail
          go_region_with (first
            | (go_at_call 55; (with_reducible refine (HOF.out _).mono ?_); rintro e w8 ⟨⟨v8, rfl, hv8⟩, hk8⟩; have hkd := (Kept.refl w7).drew.trans hk8; have i0 := hkd.cell x0; have i1 := hkd.cell x1; have i2 := hkd.cell x2; have j0 := hkd.cell q0; have j1 := hkd.cell q1; have j2 := hkd.cell q2; have HX8 := Lib.hid (HXW.out.kept hkd); have HXA8 := Lib.hid (HXA.out.kept hkd); have HQ8 := Lib.hid (HQR.out _ hkd); have HK8 := Lib.hid (HKX.out.trans hkd); have HV8 := Lib.hid hv8; clear hk8 hkd hv8)
            | (go_at_call 63; (with_reducible refine (HSB.out _ _ _ HV8.out HQ8.out).mono ?_); rintro e w9 ⟨⟨v9, rfl, hv9⟩, hk9⟩; have l0 := hk9.cell i0; have l1 := hk9.cell i1; have l2 := hk9.cell i2; have HX9 := Lib.hid (HX8.out.kept hk9); have HXA9 := Lib.hid (HXA8.out.kept hk9); have HK9 := Lib.hid (HK8.out.trans hk9); have HV9 := Lib.hid hv9; clear hk9 hv9)
            | (go_at_call 64; (with_reducible refine (HM2.out _ _ _ HXA9.out HV9.out).mono ?_); rintro e w7 ⟨⟨v7, rfl, hv7⟩, hk7⟩; have HX7 := Lib.hid (HX9.out.kept hk7); have HK7 := Lib.hid (HK9.out.trans hk7); obtain ⟨u7, u8, rfl, k7, k8⟩ := hv7; obtain ⟨a7, c7, rfl⟩ := k7.shape; obtain ⟨a8, c8, rfl⟩ := k8.shape; have K7 := Lib.hid k7; have K8 := Lib.hid k8; obtain ⟨_, _, _, _, ⟨t0, t1, t2⟩, ⟨j0, j1, j2⟩, hgl6, _⟩ := HX7.out.at; clear k7 k8 hk7))
          all_goals
            have HS := Lib.hid (HX7.out.store K7.out K8.out)
            generalize (canR (wQs ps (y, n) (k + 1))).num.length = n7 at *
            generalize (canR (wQs ps (y, n) (k + 1))).den.length = n8 at *
            go_wp2_with fail
            go_roundg (m - (k + 1))
            case measure => omega
            case rel => exact ⟨k + 1, by omega, by go_num, Nat.le_refl _, HS, Lib.hid (((HK7.out.store (Nat.le_refl _) _ _).store (Nat.le_refl _) _ _).store (Nat.le_refl _) _ _)⟩
    · have hke : k = m := by omega
      have hkn : ¬ (k : Int) < (m : Int) := by omega
      have HX2 : Hid (RatCell wr w3.heap.size R) := Lib.hid (by rw [HRR.out, ← hke]; exact HX.out)
      have hrr := HR3.out.kept HKr.out
      have HFF := Lib.hid (HF3.out.kept HKr.out)
      obtain ⟨a5, c5, a6, c6, ⟨x0, x1, x2⟩, _, hgl, u7, u8, e9, k7, k8⟩ := HX2.out.at
      simp only [Value.agg.injEq] at e9
      have e9' := congrArg Array.toList e9
      simp at e9'
      obtain ⟨rfl, rfl⟩ := e9'
      obtain ⟨y0, y1, y2, hra⟩ := rat_stored hrr HFF.out k7 k8
      have g0 := hrr.cell (i := 0) (by simp)
      have g1 := hrr.cell (i := 1) (by simp)
      have g2 := hrr.cell (i := 2) (by simp)
      have f0 := hrr.free 0
      have f1 := hrr.free 1
      have f2 := hrr.free 2
      have hlt5 := hrr.lt
      have HRA := Lib.hid hra
      have Y0 := Lib.hid y0
      have Y1 := Lib.hid y1
      have Y2 := Lib.hid y2
      have HKw := Lib.hid (HK3.out.trans HKr.out)
      clear hra y0 y1 y2 k7 k8 hrr e9 hke
      generalize R.num.length = n7 at *
      generalize R.den.length = n8 at *
      go_wp2
      refine bodyPost_ret (v := .agg #[.bool R.neg, .slice a5 n7 c5, .slice a6 n8 c6]) ?_ rfl ⟨⟨_, rfl, HRA.out⟩, ?_⟩
      · simp [results, Tryz.results168, go_sem, Y0.out, Y1.out, Y2.out]
      · exact ((HKw.out.store (by omega) _ _).store (by omega) _ _).store (by omega) _ _
end Go.Proofs.YtbkchheikkbebaaGreatDoor

/-
  Walk: disjoint.total. Printed by gen_I10.py.
-/
namespace Go.Proofs.YtbkchheikkbebaaGreatDoor
open Go.RowKit

set_option maxRecDepth 100000 in
set_option maxHeartbeats 16000000 in
theorem dtotal_any (cv v : Value) (L : List (Nat × Nat)) (ps : List Rw) (w : World) (hc : CbsAt w cv (ofCs L)) (hb : ∀ c ∈ L, c.1 < 16777216 ∧ c.2 < 16777216) (hL : L.length ≤ 1024) (hv : RatsAt w v ps) (hp3 : ∀ r ∈ ps, r.Short 3) (hp30 : ps.length ≤ 30) :
    Calls Tryz.prog 89 #[cv, v] w fun e w' => (∃ v', e = .returned v' ∧ RatAt w' v' (canR (sumWs ps L L.length))) ∧ Kept w w' := by
  have HPR : Hid (∀ (y n : Nat) W, y < 16777216 → n < 16777216 → Kept w W → Calls Tryz.prog 168 #[.agg #[.int .i64 y, .int .i64 n], v] W fun e w' => (∃ v', e = .returned v' ∧ RatAt w' v' (canR (wQs ps (y, n) ps.length))) ∧ Kept W w') := Lib.hid fun y n W h1 h2 hk => dweight_any y n v ps W h1 h2 (hv.kept hk) hp3 hp30
  have HSS := Lib.hid (fun k hk => sumWs_short (l := L) hp3 hv.ok hp30 k hk)
  have HPS := Lib.hid (fun c => wQ_short (c := c) hp3 hv.ok ps.length (Nat.le_refl _))
  have HV := Lib.hid hc
  have HB := Lib.hid hb
  obtain ⟨ca, cc, rfl⟩ := hc.shape
  obtain ⟨a, c, rfl⟩ := hv.shape
  rw [ofCs_len] at HV ⊢
  obtain ⟨m, hm⟩ : ∃ m, m = L.length := ⟨_, rfl⟩
  rw [← hm] at HV hL HSS ⊢
  have HM := Lib.hid hm
  obtain ⟨pn, hpn⟩ : ∃ pn, pn = ps.length := ⟨_, rfl⟩
  rw [← hpn] at HPR HPS hp30 ⊢
  have HPN := Lib.hid hpn
  obtain ⟨R, hR⟩ : ∃ R, R = canR (sumWs ps L m) := ⟨_, rfl⟩
  rw [← hR]
  have HRR := Lib.hid hR
  obtain ⟨w1, hw1⟩ : ∃ w1, w1 = w.alloc (.cells #[.bool false, .slice none 0 0, .slice none 0 0] 39) := ⟨_, rfl⟩
  have HR1 : Hid (RowAt w1 w.heap.size 39 [.bool false, .slice none 0 0, .slice none 0 0]) := Lib.hid (by rw [hw1]; exact RowAt.made w #[.bool false, .slice none 0 0, .slice none 0 0] 39)
  have HF1 : Hid (FixAt w1 w.heap.size [.bool false, .slice none 0 0, .slice none 0 0]) := Lib.hid (by rw [hw1]; exact FixAt.made w #[.bool false, .slice none 0 0, .slice none 0 0] 39)
  have HK1 : Hid (Kept w w1) := Lib.hid (by rw [hw1]; exact (Kept.refl _).alloc _)
  have HS1 : Hid (w1.heap.size = w.heap.size + 1) := Lib.hid (by rw [hw1]; simp)
  obtain ⟨w2, hw2⟩ : ∃ w2, w2 = w1.alloc (.cells #[.bool false, .slice none 0 0, .slice none 0 0] 39) := ⟨_, rfl⟩
  have HC : Hid (RatCell w2 w1.heap.size (canR (sumWs ps L 0))) := Lib.hid (by rw [hw2]; exact RatCell.made (r := ⟨false, [], []⟩) (WdsAt.nil w1) (WdsAt.nil w1))
  have HK2 : Hid (Kept w1 w2) := Lib.hid (by rw [hw2]; exact (Kept.refl _).alloc _)
  have HW1 := Lib.hid hw1
  have HW2 := Lib.hid hw2
  clear hm hc hv hp3 hb hpn hR hw1 hw2
  go_enter Tryz.func89, Tryz.ntmps89
  go_wp2_with fail
  rw [← HW1.out, ← HS1.out, ← HW2.out]
  go_loopg [10] m (fun kx s10 wq => ∃ j : Nat, j ≤ m ∧ s10 = .int .i64 j ∧ m - j ≤ kx ∧ Hid (RatCell wq w1.heap.size (canR (sumWs ps L j))) ∧ Hid (Kept w1 wq))
  case atStart => exact ⟨0, Nat.zero_le _, rfl, by omega, HC, HK2⟩
  case round =>
    obtain ⟨j, hj, rfl, hjx, HX, HKq⟩ := hrel
    have HKw2 := Lib.hid (HK1.out.trans HKq.out)
    by_cases hjm : j < m
    · have hjl : j < L.length := by have := HM.out; omega
      obtain ⟨b, o, rfl, g1, g2⟩ := HV.out.get j (by rw [ofCs_len]; exact hjl)
      have eC : (ofCs L).getD j default = ofC L[j] := ofCs_getD hjl
      rw [eC] at g1 g2
      obtain ⟨y, hy⟩ : ∃ y, y = L[j].1 := ⟨_, rfl⟩
      obtain ⟨n, hn⟩ : ∃ n, n = L[j].2 := ⟨_, rfl⟩
      have eL : L[j] = (y, n) := by rw [hy, hn]
      have hbd := HB.out L[j] (List.getElem_mem hjl)
      rw [eL] at g1 g2 hbd
      have x1 := HKw2.out.cell g1
      have x2 := HKw2.out.cell g2
      rw [← Nat.add_assoc] at x2
      simp only [ofC] at x1 x2
      have HP := Lib.hid (fun W (h : Kept w W) => HPR.out y n W hbd.1 hbd.2 h)
      have HST : Hid (canR (sumWs ps L (j + 1)) = canR (ratOf (canR (sumWs ps L j)) + ratOf (canR (wQs ps (y, n) pn)))) := Lib.hid (by rw [sumWs_succ hjl, ratOf_can, ratOf_can, HPN.out, eL])
      have hsk := HSS.out j (by omega)
      have hps := HPS.out (y, n)
      have hji : (j : Int) < (m : Int) := by omega
      have HAD : Hid (∀ W u1 u2, RatAt W u1 (canR (sumWs ps L j)) → RatAt W u2 (canR (wQs ps (y, n) pn)) → Calls Tryz.prog 47 #[u1, u2] W fun e w' => (∃ v', e = .returned v' ∧ RatAt w' v' (canR (sumWs ps L (j + 1)))) ∧ Kept W w') := Lib.hid fun W u1 u2 k1 k2 => by
        rw [HST.out]
        exact radd_any u1 u2 _ _ W k1 k2 ⟨Nat.le_trans hsk.1 (by omega), Nat.le_trans hsk.2 (by omega)⟩ ⟨Nat.le_trans hps.1 (by omega), Nat.le_trans hps.2 (by omega)⟩
      obtain ⟨wo, rfl⟩ : ∃ wo : World, wo = wr := ⟨_, rfl⟩
      obtain ⟨w5, hw5⟩ : ∃ w5, w5 = wo.alloc (.cells #[.int .i64 (y : Int), .int .i64 (n : Int)] 55) := ⟨_, rfl⟩
      have HK5 : Hid (Kept wo w5) := Lib.hid (by rw [hw5]; exact (Kept.refl _).alloc _)
      have hq5 := RowAt.made wo #[.int .i64 (y : Int), .int .i64 (n : Int)] 55
      rw [← hw5] at hq5
      have q0 := hq5.cell (i := 0) (by simp)
      have q1 := hq5.cell (i := 1) (by simp)
      simp only [List.getElem_cons_succ, List.getElem_cons_zero] at q0 q1
      have hql := hq5.lt
      have HX5 := Lib.hid (HX.out.kept HK5.out)
      have HKq5 := Lib.hid (HKq.out.trans HK5.out)
      have HKw5 := Lib.hid (HKw2.out.trans HK5.out)
      obtain ⟨a5, c5, a6, c6, ⟨x0, x3, x4⟩, ⟨f0, f1, f2⟩, hgl, hxa⟩ := HX5.out.at
      have HXA := Lib.hid hxa
      have HW5 := Lib.hid hw5
      generalize (canR (sumWs ps L j)).neg = z3 at *
      generalize (canR (sumWs ps L j)).num.length = z4 at *
      generalize (canR (sumWs ps L j)).den.length = z5 at *
      clear g1 g2 eC hsk hps hxa hy hn hw5 hq5
      go_wp2_with fail
      rw [← HW5.out]
      go_region_with (first
        | (go_at_call 168; (with_reducible refine (HP.out _ (HKw5.out.drew)).mono ?_); rintro e w6 ⟨⟨v6, rfl, hv6⟩, hk6⟩; have hkd := (Kept.refl _).drew.trans hk6; have i0 := hkd.cell x0; have i1 := hkd.cell x3; have i2 := hkd.cell x4; have HX6 := Lib.hid (HX5.out.kept hkd); have HXA6 := Lib.hid (HXA.out.kept hkd); have HK6 := Lib.hid (HKq5.out.trans hkd); have HV6 := Lib.hid hv6; clear hk6 hkd hv6)
        | (go_at_call 47; (with_reducible refine (HAD.out _ _ _ HXA6.out HV6.out).mono ?_); rintro e w7 ⟨⟨v7, rfl, hv7⟩, hk7⟩; have HX7 := Lib.hid (HX6.out.kept hk7); have HK7 := Lib.hid (HK6.out.trans hk7); obtain ⟨u7, u8, rfl, k7, k8⟩ := hv7; obtain ⟨a7, c7, rfl⟩ := k7.shape; obtain ⟨a8, c8, rfl⟩ := k8.shape; have K7 := Lib.hid k7; have K8 := Lib.hid k8; obtain ⟨_, _, _, _, ⟨t0, t1, t2⟩, ⟨j0, j1, j2⟩, hgl6, _⟩ := HX7.out.at; clear k7 k8 hk7))
      all_goals
        have HS := Lib.hid (HX7.out.store K7.out K8.out)
        generalize (canR (sumWs ps L (j + 1))).num.length = n7 at *
        generalize (canR (sumWs ps L (j + 1))).den.length = n8 at *
        go_wp2_with fail
        go_roundg (m - (j + 1))
        case measure => omega
        case rel => exact ⟨j + 1, by omega, by go_num, Nat.le_refl _, HS, Lib.hid (((HK7.out.store (Nat.le_refl _) _ _).store (Nat.le_refl _) _ _).store (Nat.le_refl _) _ _)⟩
    · have hje : j = m := by omega
      have hji : ¬ (j : Int) < (m : Int) := by omega
      have HX2 : Hid (RatCell wr w1.heap.size R) := Lib.hid (by rw [HRR.out, ← hje]; exact HX.out)
      have hrr := HR1.out.kept HKq.out
      have HFF := Lib.hid (HF1.out.kept HKq.out)
      obtain ⟨a5, c5, a6, c6, ⟨x0, x1, x2⟩, _, hgl, u7, u8, e9, k7, k8⟩ := HX2.out.at
      simp only [Value.agg.injEq] at e9
      have e9' := congrArg Array.toList e9
      simp at e9'
      obtain ⟨rfl, rfl⟩ := e9'
      obtain ⟨y0, y1, y2, hra⟩ := rat_stored hrr HFF.out k7 k8
      have g0 := hrr.cell (i := 0) (by simp)
      have g1 := hrr.cell (i := 1) (by simp)
      have g2 := hrr.cell (i := 2) (by simp)
      have f0 := hrr.free 0
      have f1 := hrr.free 1
      have f2 := hrr.free 2
      have hlt5 := hrr.lt
      have HRA := Lib.hid hra
      have Y := Lib.hid (And.intro y0 (And.intro y1 y2))
      clear hra y0 y1 y2 k7 k8 hrr e9
      clear hje
      generalize R.num.length = n7 at *
      generalize R.den.length = n8 at *
      go_wp2
      refine bodyPost_ret (v := .agg #[.bool R.neg, .slice a5 n7 c5, .slice a6 n8 c6]) ?_ rfl ⟨⟨_, rfl, HRA.out⟩, ?_⟩
      · simp [results, Tryz.results89, go_sem, Y.out.1, Y.out.2.1, Y.out.2.2]
      · exact ((HKw2.out.store (by omega) _ _).store (by omega) _ _).store (by omega) _ _
end Go.Proofs.YtbkchheikkbebaaGreatDoor

/-
  Walks: the reference's CheckList and Check of disjoint cubes.
-/
namespace Go.Proofs.YtbkchheikkbebaaGreatDoor
open Go.RowKit

/-- The number of CheckList's error. -/
def chkL (L : List (Int × Int)) : Nat := if 1024 < L.length then 4 else chkCs L
end Go.Proofs.YtbkchheikkbebaaGreatDoor

/-
  Walks: Prob of disjoint and of the reference. Printed by gen_I11.py.
-/
namespace Go.Proofs.YtbkchheikkbebaaGreatDoor
open Go.RowKit

set_option maxRecDepth 100000 in
set_option maxHeartbeats 16000000 in
theorem dprob_any (cv v : Value) (L0 : List (Int × Int)) (ps : List Rw) (w : World) (hc : CbsAt w cv L0) (hv : RatsAt w v ps) (hp3 : ∀ r ∈ ps, r.Short 3) (hp30 : ps.length ≤ 30) :
    Calls Tryz.prog 28 #[cv, v] w fun e w' => (∃ v', e = .returned (.tuple #[v', errV (prbD L0 ps).1]) ∧ RatAt w' v' (canR (prbD L0 ps).2)) ∧ Kept w w' := by
  have HCH : Hid (∀ W, Kept w W → Calls Tryz.prog 30 #[cv] W fun e w' => e = .returned (errV (chkD L0)) ∧ Kept W w') := Lib.hid fun W h => dcheck_any cv L0 W (hc.kept h)
  obtain ⟨QQ, hQQ⟩ : ∃ QQ, QQ = prbD L0 ps := ⟨_, rfl⟩
  have hQ0 : QQ = if chkD L0 ≠ 0 then (chkD L0, 0) else prbT (L0.map natC) ps := hQQ
  rw [← hQQ]
  obtain ⟨Qn, Qr⟩ := QQ
  simp only
  have HGR : Hid (∀ (s : Nat) (W : World), s < 16777216 → Calls Tryz.prog 87 #[.int .i64 s] W fun e w' => e = .returned (.int .i64 (gtK s)) ∧ Kept W w') := Lib.hid fun s W hs => (great_any s hs W).mono fun _ _ ⟨h1, h2⟩ => ⟨h1, by rw [h2]; exact Kept.refl _⟩
  have HBA := Lib.hid (fun W (h : Kept w W) => dbad_any v ps W (hv.kept h) (fun r hr => ⟨Nat.le_trans (hp3 r hr).1 (by omega), Nat.le_trans (hp3 r hr).2 (by omega)⟩))
  have HV0 := Lib.hid hc
  have HPV0 := Lib.hid hv
  have H3 := Lib.hid hp3
  obtain ⟨ca, cc, rfl⟩ := hc.shape
  obtain ⟨pa, pc, rfl⟩ := hv.shape
  obtain ⟨q1, hq1⟩ : ∃ q1, q1 = chkD L0 := ⟨_, rfl⟩
  rw [← hq1] at HCH hQ0
  have HQ0 := Lib.hid hQ0
  have HQ1 := Lib.hid hq1
  obtain ⟨w2, hw2⟩ : ∃ w2, w2 = w.alloc (.cells #[.bool false, .slice none 0 0, .slice none 0 0] 39) := ⟨_, rfl⟩
  have HR2 : Hid (RowAt w2 w.heap.size 39 [.bool false, .slice none 0 0, .slice none 0 0]) := Lib.hid (by rw [hw2]; exact RowAt.made w #[.bool false, .slice none 0 0, .slice none 0 0] 39)
  have HF2 : Hid (FixAt w2 w.heap.size [.bool false, .slice none 0 0, .slice none 0 0]) := Lib.hid (by rw [hw2]; exact FixAt.made w #[.bool false, .slice none 0 0, .slice none 0 0] 39)
  have HK2 : Hid (Kept w w2) := Lib.hid (by rw [hw2]; exact (Kept.refl _).alloc _)
  have HW2 := Lib.hid hw2
  clear hc hv hp3 hw2 hQQ hQ0 hq1
  by_cases h1 : q1 = 0
  · subst h1
    rw [errV_zero] at HCH
    obtain ⟨L, hL⟩ : ∃ L, L = L0.map natC := ⟨_, rfl⟩
    have h9 : L0.length ≤ 1024 ∧ chkCs L0 = 0 := by
      have h := HQ1.out
      unfold chkD at h
      split at h
      · cases h
      · split at h
        · exact absurd h.symm (by assumption)
        · rename_i h2 h3; exact ⟨by omega, Classical.byContradiction h3⟩
    have hL0 : L0 = ofCs L := by
      rw [hL]
      unfold ofCs
      rw [List.map_map]
      refine (List.map_id L0).symm.trans (List.map_congr_left fun c hc => ?_)
      exact (chkCb_zero (chkCs_zero h9.2 c hc)).2
    have HB : Hid (∀ c ∈ L, c.1 < 16777216 ∧ c.2 < 16777216) := Lib.hid fun c hc => by
      rw [hL] at hc
      obtain ⟨d, hd, rfl⟩ := List.mem_map.1 hc
      have := (chkCb_zero (chkCs_zero h9.2 d hd)).1
      exact ⟨this.1, this.2.1⟩
    have HQA : Hid ((Qn, Qr) = prbT L ps) := Lib.hid (by have h := HQ0.out; rw [if_neg (by omega), ← hL] at h; exact h)
    have hlen : L.length ≤ 1024 := by rw [hL, List.length_map]; exact h9.1
    have HV : Hid (CbsAt w (.slice ca L0.length cc) (ofCs L)) := Lib.hid (by rw [← hL0]; exact HV0.out)
    obtain ⟨m, hm⟩ : ∃ m, m = L0.length := ⟨_, rfl⟩
    have hm2 : m = L.length := by rw [hm, hL, List.length_map]
    rw [← hm] at HV HCH ⊢
    have HM := Lib.hid hm2
    obtain ⟨pn, hpn⟩ : ∃ pn, pn = ps.length := ⟨_, rfl⟩
    have HPV : Hid (RatsAt w (.slice pa pn pc) ps) := Lib.hid (by rw [hpn]; exact HPV0.out)
    rw [← hpn] at HBA ⊢
    have HPN := Lib.hid hpn
    have hm9 : m ≤ 1024 := by omega
    clear h9 hL0 hlen hm hm2 hpn hL HQ0 HQ1 HV0 HPV0
    go_enter Tryz.func28, Tryz.ntmps28
    go_wp2_with fail
    rw [← HW2.out]
    refine (HCH.out _ HK2.out).mono ?_
    rintro e w4 ⟨rfl, hk4⟩
    have HR4 := Lib.hid (HR2.out.kept hk4)
    have HF4 := Lib.hid (HF2.out.kept hk4)
    have HK4 := Lib.hid (HK2.out.trans hk4)
    clear hk4
    go_wp2_with fail
    go_loopg [17] m (fun kx s1 wr => ∃ k : Nat, k ≤ m ∧ s1 = .int .i64 k ∧ m - k ≤ kx ∧ Hid (∀ c ∈ L.take k, gtK (c.1 ||| c.2) < (pn : Int)) ∧ Hid (Kept w4 wr))
    case atStart => exact ⟨0, Nat.zero_le _, rfl, by omega, Lib.hid (by simp), Lib.hid (Kept.refl _)⟩
    case round =>
      obtain ⟨k, hk, rfl, hkx, HG, HKr⟩ := hrel
      have HKw := Lib.hid (HK4.out.trans HKr.out)
      by_cases hlt : k < m
      · have hkl : k < L.length := by have := HM.out; omega
        obtain ⟨b, o, rfl, g1, g2⟩ := HV.out.get k (by rw [ofCs_len]; exact hkl)
        rw [ofCs_getD hkl] at g1 g2
        obtain ⟨y, hy⟩ : ∃ y, y = L[k].1 := ⟨_, rfl⟩
        obtain ⟨n, hn⟩ : ∃ n, n = L[k].2 := ⟨_, rfl⟩
        have eL : L[k] = (y, n) := by rw [hy, hn]
        have hbd := HB.out L[k] (List.getElem_mem hkl)
        rw [eL] at g1 g2 hbd
        have x1 := HKw.out.cell g1
        have x2 := HKw.out.cell g2
        rw [← Nat.add_assoc] at x2
        simp only [ofC] at x1 x2
        have HEL := Lib.hid eL
        have p1 := or_i64 y n (by omega) (by omega)
        obtain ⟨z, hz⟩ : ∃ z, z = y ||| n := ⟨_, rfl⟩
        have hz24 : z < 16777216 := by rw [hz]; exact or_lt24 hbd.1 hbd.2
        rw [← hz] at p1
        have HZ := Lib.hid hz
        have HGC := Lib.hid (fun W => HGR.out z W hz24)
        have hki : (k : Int) < (m : Int) := by omega
        obtain ⟨g, hg⟩ : ∃ g, g = gtK z := ⟨_, rfl⟩
        have HGG := Lib.hid hg
        rw [← hg] at HGC
        obtain ⟨wo, rfl⟩ : ∃ wo : World, wo = wr := ⟨_, rfl⟩
        clear g1 g2 hy hn eL hbd hz hz24 hg
        by_cases hge : (pn : Int) ≤ g
        · have HQV : Hid (Qn = 11 ∧ Qr = 0) := Lib.hid (by
            have h := HQA.out
            unfold prbT at h
            rw [if_pos (List.any_eq_true.2 ⟨L[k], List.getElem_mem _, decide_eq_true (by rw [HEL.out, ← HPN.out]; show (pn : Int) ≤ gtK (y ||| n); rw [← HZ.out, ← HGG.out]; exact hge)⟩)] at h
            injection h with h1 h2
            exact ⟨h1, h2⟩)
          have dge : decide ((pn : Int) ≤ g) = true := decide_eq_true hge
          go_wp2_with (go_at_call 87; refine (HGC.out _).mono ?_; rintro e w5 ⟨rfl, hk5⟩; have HRW := Lib.hid (HR4.out.kept (HKr.out.trans (((Kept.refl _).alloc _).trans hk5))); have HFW := Lib.hid (HF4.out.kept (HKr.out.trans (((Kept.refl _).alloc _).trans hk5))); have HK5 := Lib.hid (HKw.out.trans (((Kept.refl _).alloc _).trans hk5)); clear hk5; have G0 := HRW.out.cell (i := 0) (by simp); have G1 := HRW.out.cell (i := 1) (by simp); have G2 := HRW.out.cell (i := 2) (by simp); have F0 := HRW.out.free 0; have F1 := HRW.out.free 1; have F2 := HRW.out.free 2; have LT := HRW.out.lt)
          obtain ⟨y0, y1, y2, hra⟩ := rat_stored (r := ⟨false, [], []⟩) HRW.out HFW.out (WdsAt.nil _) (WdsAt.nil _)
          have Y := Lib.hid (And.intro y0 (And.intro y1 y2))
          have HRA := Lib.hid hra
          clear y0 y1 y2 hra
          refine bodyPost_ret (v := .tuple #[.agg #[.bool false, .slice none 0 0, .slice none 0 0], errV 11]) ?_ rfl ⟨⟨_, by rw [HQV.out.1], by rw [HQV.out.2, canR_zero]; exact HRA.out⟩, ?_⟩
          · simp [results, Tryz.results28, go_sem, Y.out.1, Y.out.2.1, Y.out.2.2, errV]
          · exact ((HK5.out.store (by omega) _ _).store (by omega) _ _).store (by omega) _ _
        · have hgl : ¬ (pn : Int) ≤ g := hge
          have dgl : decide ((pn : Int) ≤ g) = false := decide_eq_false hge
          go_wp2_with (go_at_call 87; refine (HGC.out _).mono ?_; rintro e w5 ⟨rfl, hk5⟩; have HK5 := Lib.hid (HKr.out.trans (((Kept.refl _).alloc _).trans hk5)); clear hk5)
          go_roundg (m - (k + 1))
          case measure => omega
          case rel => exact ⟨k + 1, by omega, by go_num, Nat.le_refl _, Lib.hid (fun c hc => by
            rw [List.take_succ_eq_append_getElem hkl] at hc
            rcases List.mem_append.1 hc with hc | hc
            · exact HG.out c hc
            · simp at hc; rw [hc, HEL.out]; show gtK (y ||| n) < _; rw [← HZ.out, ← HGG.out]; omega), HK5⟩
      · have hki : ¬ (k : Int) < (m : Int) := by omega
        have HGA : Hid (∀ c ∈ L, gtK (c.1 ||| c.2) < (pn : Int)) := Lib.hid (by have h := HG.out; rwa [List.take_of_length_le (by have := HM.out; omega)] at h)
        have HQB : Hid ((Qn, Qr) = if badR ps = true then (3, 0) else (0, sumWs ps L L.length)) := Lib.hid (by
          have h := HQA.out
          unfold prbT at h
          rw [if_neg (by
            intro h2
            obtain ⟨c, hc, h3⟩ := List.any_eq_true.1 h2
            have := HGA.out c hc
            have := of_decide_eq_true h3
            have := HPN.out
            omega)] at h
          exact h)
        cases hbad : badR ps with
        | true =>
          rw [hbad] at HBA HQB
          have HQV : Hid (Qn = 3 ∧ Qr = 0) := Lib.hid (by
            have h := HQB.out
            rw [if_pos rfl] at h
            injection h with h1 h2
            exact ⟨h1, h2⟩)
          clear hbad
          go_wp2_with fail
          refine (HBA.out _ HKw.out).mono ?_
          rintro e w5 ⟨rfl, hk5⟩
          have HRW := Lib.hid (HR4.out.kept (HKr.out.trans hk5))
          have HFW := Lib.hid (HF4.out.kept (HKr.out.trans hk5))
          have HK5 := Lib.hid (HKw.out.trans hk5)
          clear hk5
          have hr5 := HRW.out
          obtain ⟨y0, y1, y2, hra⟩ := rat_stored (r := ⟨false, [], []⟩) hr5 HFW.out (WdsAt.nil _) (WdsAt.nil _)
          have Y := Lib.hid (And.intro y0 (And.intro y1 y2))
          have HRA := Lib.hid hra
          have g0 := hr5.cell (i := 0) (by simp)
          have g1 := hr5.cell (i := 1) (by simp)
          have g2 := hr5.cell (i := 2) (by simp)
          have f0 := hr5.free 0
          have f1 := hr5.free 1
          have f2 := hr5.free 2
          have hlt5 := hr5.lt
          clear hr5 y0 y1 y2 hra
          go_wp2
          refine bodyPost_ret (v := .tuple #[.agg #[.bool false, .slice none 0 0, .slice none 0 0], errV 3]) ?_ rfl ⟨⟨_, by rw [HQV.out.1], by rw [HQV.out.2, canR_zero]; exact HRA.out⟩, ?_⟩
          · simp [results, Tryz.results28, go_sem, Y.out.1, Y.out.2.1, Y.out.2.2, errV]
          · exact ((HK5.out.store (by omega) _ _).store (by omega) _ _).store (by omega) _ _
        | false =>
          rw [hbad] at HBA HQB
          have HQV : Hid (Qn = 0 ∧ Qr = sumWs ps L L.length) := Lib.hid (by
            have h := HQB.out
            rw [if_neg (by simp)] at h
            injection h with h1 h2
            exact ⟨h1, h2⟩)
          clear hbad
          go_wp2_with fail
          refine (HBA.out _ HKw.out).mono ?_
          rintro e w5 ⟨rfl, hk5⟩
          have HRW := Lib.hid (HR4.out.kept (HKr.out.trans hk5))
          have HFW := Lib.hid (HF4.out.kept (HKr.out.trans hk5))
          have HK5 := Lib.hid (HKw.out.trans hk5)
          clear hk5
          have HTO := Lib.hid (fun W (h : Kept w W) => dtotal_any (.slice ca m cc) (.slice pa pn pc) L ps W (HV.out.kept h) HB.out (by have := HM.out; omega) (HPV.out.kept h) H3.out (by have := HPN.out; omega))
          rw [← HM.out] at HTO
          go_wp2_with fail
          refine (HTO.out _ HK5.out).mono ?_
          rintro e w6 ⟨⟨v6, rfl, hv6⟩, hk6⟩
          have hrr := HRW.out.kept hk6
          have HFF := Lib.hid (HFW.out.kept hk6)
          have HK6 := Lib.hid (HK5.out.trans hk6)
          rw [HM.out, ← HQV.out.2] at hv6
          obtain ⟨R, hR⟩ : ∃ R, R = canR Qr := ⟨_, rfl⟩
          have HRR := Lib.hid hR
          rw [← hR] at hv6
          obtain ⟨u7, u8, rfl, k7, k8⟩ := hv6
          obtain ⟨a5, c5, rfl⟩ := k7.shape
          obtain ⟨a6, c6, rfl⟩ := k8.shape
          obtain ⟨y0, y1, y2, hra⟩ := rat_stored hrr HFF.out k7 k8
          have g0 := hrr.cell (i := 0) (by simp)
          have g1 := hrr.cell (i := 1) (by simp)
          have g2 := hrr.cell (i := 2) (by simp)
          have f0 := hrr.free 0
          have f1 := hrr.free 1
          have f2 := hrr.free 2
          have hlt5 := hrr.lt
          have HRA := Lib.hid hra
          have Y := Lib.hid (And.intro y0 (And.intro y1 y2))
          clear hra y0 y1 y2 k7 k8 hrr hk6 hR
          generalize R.num.length = n7 at *
          generalize R.den.length = n8 at *
          go_wp2
          refine bodyPost_ret (v := .tuple #[.agg #[.bool R.neg, .slice a5 n7 c5, .slice a6 n8 c6], .nilIface]) ?_ rfl ⟨⟨_, by rw [HQV.out.1]; rfl, by rw [← HRR.out]; exact HRA.out⟩, ?_⟩
          · simp [results, Tryz.results28, go_sem, Y.out.1, Y.out.2.1, Y.out.2.2]
          · exact ((HK6.out.store (by omega) _ _).store (by omega) _ _).store (by omega) _ _
  · have HQV : Hid (Qn = q1 ∧ Qr = 0) := Lib.hid (by
      have h := HQ0.out
      rw [if_pos h1] at h
      injection h with h3 h4
      exact ⟨h3, h4⟩)
    rw [errV_pos h1] at HCH
    clear HQ0 HQ1
    go_enter Tryz.func28, Tryz.ntmps28
    go_wp2_with fail
    rw [← HW2.out]
    refine (HCH.out _ HK2.out).mono ?_
    rintro e w5 ⟨rfl, hk5⟩
    have HRW := Lib.hid (HR2.out.kept hk5)
    have HFW := Lib.hid (HF2.out.kept hk5)
    have HK5 := Lib.hid (HK2.out.trans hk5)
    clear hk5
    have hr5 := HRW.out
    obtain ⟨y0, y1, y2, hra⟩ := rat_stored (r := ⟨false, [], []⟩) hr5 HFW.out (WdsAt.nil _) (WdsAt.nil _)
    have Y := Lib.hid (And.intro y0 (And.intro y1 y2))
    have HRA := Lib.hid hra
    have g0 := hr5.cell (i := 0) (by simp)
    have g1 := hr5.cell (i := 1) (by simp)
    have g2 := hr5.cell (i := 2) (by simp)
    have f0 := hr5.free 0
    have f1 := hr5.free 1
    have f2 := hr5.free 2
    have hlt5 := hr5.lt
    clear hr5 y0 y1 y2 hra
    go_wp2
    refine bodyPost_ret (v := .tuple #[.agg #[.bool false, .slice none 0 0, .slice none 0 0], .iface 50 (.int .i64 q1)]) ?_ rfl ⟨⟨_, by rw [HQV.out.1]; rw [errV_pos h1], by rw [HQV.out.2, canR_zero]; exact HRA.out⟩, ?_⟩
    · simp [results, Tryz.results28, go_sem, Y.out.1, Y.out.2.1, Y.out.2.2]
    · exact ((HK5.out.store (by omega) _ _).store (by omega) _ _).store (by omega) _ _
end Go.Proofs.YtbkchheikkbebaaGreatDoor

/-
  Walk: awake of the laws of chapter 38.
-/
namespace Go.Proofs.YtbkchheikkbebaaGreatDoor
open Go.RowKit

/-- A literal of three fractions. -/
theorem rats_three {w : World} {r1 r2 r3 : Rw} {u1 v1 u2 v2 u3 v3 : Value} (h1 : WdsAt w u1 r1.num) (k1 : WdsAt w v1 r1.den) (h2 : WdsAt w u2 r2.num) (k2 : WdsAt w v2 r2.den) (h3 : WdsAt w u3 r3.num) (k3 : WdsAt w v3 r3.den) :
    RatsAt (w.alloc (.cells #[.bool r1.neg, u1, v1, .bool r2.neg, u2, v2, .bool r3.neg, u3, v3] 39)) (.slice (some ⟨w.heap.size, 0, none⟩) 3 3) [r1, r2, r3] := by
  have hk : Kept w (w.alloc (.cells #[.bool r1.neg, u1, v1, .bool r2.neg, u2, v2, .bool r3.neg, u3, v3] 39)) := (Kept.refl _).alloc _
  refine ⟨_, 3, rfl, ⟨by simp, fun h => by cases h⟩, by simp, fun i hi => ?_⟩
  match i, hi with
  | 0, _ =>
    refine ⟨w.heap.size, 0, u1, v1, rfl, fun j v hj => ?_, h1.kept hk, k1.kept hk⟩
    match j, hj with
    | 0, hj => simp at hj; subst hj; simp
    | 1, hj => simp at hj; subst hj; simp
    | 2, hj => simp at hj; subst hj; simp
  | 1, _ =>
    refine ⟨w.heap.size, 0, u2, v2, rfl, fun j v hj => ?_, h2.kept hk, k2.kept hk⟩
    match j, hj with
    | 0, hj => simp at hj; subst hj; simp
    | 1, hj => simp at hj; subst hj; simp
    | 2, hj => simp at hj; subst hj; simp
  | 2, _ =>
    refine ⟨w.heap.size, 0, u3, v3, rfl, fun j v hj => ?_, h3.kept hk, k3.kept hk⟩
    match j, hj with
    | 0, hj => simp at hj; subst hj; simp
    | 1, hj => simp at hj; subst hj; simp
    | 2, hj => simp at hj; subst hj; simp
theorem ints_16 (w : World) : IntsAt (w.alloc (.cells #[.int .i64 1, .int .i64 6] 3)) (.slice (some ⟨w.heap.size, 0, none⟩) 2 2) [1, 6] :=
  (RowAt.made w #[.int .i64 1, .int .i64 6] 3).ints (xs := [1, 6]) (c := 2) (by simp) (by simp)
end Go.Proofs.YtbkchheikkbebaaGreatDoor

/-
  Walks: ready and awake of the laws of chapter 39.
-/
namespace Go.Proofs.YtbkchheikkbebaaGreatDoor
open Go.RowKit

theorem ex_inc (k : Int) (h0 : 0 ≤ k) (h1 : k ≤ 12) : incE [1, 6] exPs k = 0 := by
  unfold incE
  rw [if_neg (by rw [chk_16]; simp), if_neg (by decide), if_neg (by decide +kernel), ex_good, if_neg (by simp), if_neg (by omega)]
theorem ex_altR : altR exPs [1, 6] 12 = mkRat 29 200 := by decide +kernel
theorem ex_part : partV [1, 6] exPs 12 = mkRat 29 200 := by
  rw [partV, if_pos (ex_inc 12 (by omega) (by omega))]
  exact ex_altR
theorem ex_bnd : bndV [1, 6] exPs 1 = (0, mkRat 3 20) := by
  rw [bndV, if_pos (ex_inc 1 (by omega) (by omega))]
  have h1 : loR exPs [1, 6] 1 = 0 := by decide +kernel
  have h2 : hiR exPs [1, 6] 1 = mkRat 3 20 := by decide +kernel
  show (loR exPs [1, 6] 1, hiR exPs [1, 6] 1) = _
  rw [h1, h2]
set_option maxRecDepth 100000 in
set_option maxHeartbeats 4000000 in
theorem ready39_any (xv v : Value) (xs : List Int) (ps : List Rw) (w : World) (hx : IntsAt w xv xs) (hv : RatsAt w v ps) (h3 : ∀ r ∈ ps, r.Short 3) (h30 : ps.length ≤ 30) (h6 : xs.length ≤ 6 ∨ 12 < xs.length) :
    Calls Tryz.prog 42 #[xv, v] w fun e w' => e = .returned (.bool (decide (incE xs ps 0 = 0))) ∧ Kept w w' := by
  have HS : Hid (∀ W, Kept w W → Calls Tryz.prog 49 #[xv, v, .int .i64 0] W fun e w' => (∃ v', e = .returned (.tuple #[v', .int .i64 (incE xs ps 0 : Nat)]) ∧ RatAt w' v' (canR (sumV xs ps 0))) ∧ Kept W w') := Lib.hid fun W hk => rinsum_any xv v xs ps 0 W (hx.kept hk) (hv.kept hk) h3 h30 h6
  obtain ⟨q, hq⟩ : ∃ q, q = incE xs ps 0 := ⟨_, rfl⟩
  obtain ⟨R, hR⟩ : ∃ R, R = canR (sumV xs ps 0) := ⟨_, rfl⟩
  rw [← hq, ← hR] at HS
  rw [← hq]
  obtain ⟨xa, xc, rfl, hx9⟩ := hx
  obtain ⟨pa, pc, rfl⟩ := hv.shape
  clear hx9
  generalize xs.length = n at *
  generalize ps.length = m at *
  clear hq hR h3 h30 h6 hv
  by_cases h0 : q = 0
  · subst h0
    go_enter Tryz.func42, Tryz.ntmps42
    go_wp2_with fail
    refine (HS.out _ (Kept.refl _)).mono ?_
    rintro e w2 ⟨⟨v2, rfl, hv2⟩, hk2⟩
    obtain ⟨s1, s2, s3, s4, s5, s6, s7, rfl⟩ := hv2.parts
    clear hv2
    go_wp2
    go_ret
    exact ⟨by first | rfl | (show Ending.returned (.bool ((q : Int) == 0)) = _; rw [hqb]), hk2.alloc _⟩
  · have hqb : ((q : Int) == 0) = false := by simpa using h0
    have hd : decide (q = 0) = false := decide_eq_false h0
    rw [hd]
    go_enter Tryz.func42, Tryz.ntmps42
    go_wp2_with fail
    refine (HS.out _ (Kept.refl _)).mono ?_
    rintro e w2 ⟨⟨v2, rfl, hv2⟩, hk2⟩
    obtain ⟨s1, s2, s3, s4, s5, s6, s7, rfl⟩ := hv2.parts
    clear hv2
    go_wp2
    go_ret
    exact ⟨rfl, hk2.alloc _⟩
theorem rats_three3 {w : World} {r1 r2 r3 : Rw} {b1 b2 b3 : Bool} {u1 v1 u2 v2 u3 v3 : Value} (h1 : RatAt w (.agg #[.bool b1, u1, v1]) r1) (h2 : RatAt w (.agg #[.bool b2, u2, v2]) r2) (h3 : RatAt w (.agg #[.bool b3, u3, v3]) r3) :
    RatsAt (w.alloc (.cells #[.bool b1, u1, v1, .bool b2, u2, v2, .bool b3, u3, v3] 39)) (.slice (some ⟨w.heap.size, 0, none⟩) 3 3) [r1, r2, r3] := by
  obtain ⟨x1, x2, e1, k1, k2⟩ := h1
  obtain ⟨x3, x4, e2, k3, k4⟩ := h2
  obtain ⟨x5, x6, e3, k5, k6⟩ := h3
  simp only [Value.agg.injEq, Array.mk.injEq, List.cons.injEq, Value.bool.injEq, and_true] at e1 e2 e3
  obtain ⟨rfl, rfl, rfl⟩ := e1
  obtain ⟨rfl, rfl, rfl⟩ := e2
  obtain ⟨rfl, rfl, rfl⟩ := e3
  exact rats_three k1 k2 k3 k4 k5 k6
set_option maxRecDepth 100000 in
set_option maxHeartbeats 8000000 in
theorem awake39_ok (w : World) : Calls Tryz.prog 36 #[] w fun e w' => e = .returned (.bool true) ∧ Kept w w' := by
  have HM1 : Hid (∀ W, Calls Tryz.prog 82 #[.int .i64 1, .int .i64 10] W fun e w' => (∃ v', e = .returned (.tuple #[v', .nilIface]) ∧ RatAt w' v' (canR (mkRat 1 10))) ∧ Kept W w') := Lib.hid fun W => rmake_any 1 10 W (by decide) (by decide) (by decide)
  have HM2 : Hid (∀ W, Calls Tryz.prog 82 #[.int .i64 1, .int .i64 5] W fun e w' => (∃ v', e = .returned (.tuple #[v', .nilIface]) ∧ RatAt w' v' (canR (mkRat 1 5))) ∧ Kept W w') := Lib.hid fun W => rmake_any 1 5 W (by decide) (by decide) (by decide)
  have HM3 : Hid (∀ W, Calls Tryz.prog 82 #[.int .i64 1, .int .i64 4] W fun e w' => (∃ v', e = .returned (.tuple #[v', .nilIface]) ∧ RatAt w' v' (canR (mkRat 1 4))) ∧ Kept W w') := Lib.hid fun W => rmake_any 1 4 W (by decide) (by decide) (by decide)
  have HEX : Hid (∀ W v g, W.heap.size = g → RatsAt W v exPs → Calls Tryz.prog 38 #[.slice (some ⟨g, 0, none⟩) 2 2, v] (W.alloc (.cells #[.int .i64 1, .int .i64 6] 3)) fun e w' => (∃ v', e = .returned (.tuple #[v', .nilIface]) ∧ RatAt w' v' (canR (mkRat 29 200))) ∧ Kept W w') := Lib.hid fun W v g hg h2 => by
    subst hg
    have hk : Kept W (W.alloc (.cells #[.int .i64 1, .int .i64 6] 3)) := (Kept.refl _).alloc _
    have h := iexact_any _ v [1, 6] exPs _ (ints_16 W) (h2.kept hk) ex_short3 (by decide) (Or.inl (by decide))
    rw [ex_part, ex_inc 12 (by omega) (by omega), errV_zero] at h
    exact h.mono fun e w' ⟨h1, h2⟩ => ⟨h1, hk.trans h2⟩
  have HBD : Hid (∀ W v g, W.heap.size = g → RatsAt W v exPs → Calls Tryz.prog 40 #[.slice (some ⟨g, 0, none⟩) 2 2, v, .int .i64 1] (W.alloc (.cells #[.int .i64 1, .int .i64 6] 3)) fun e w' => (∃ v', e = .returned (.tuple #[v', .nilIface]) ∧ SpanV w' v' (canR 0) (canR (mkRat 3 20))) ∧ Kept W w') := Lib.hid fun W v g hg h2 => by
    subst hg
    have hk : Kept W (W.alloc (.cells #[.int .i64 1, .int .i64 6] 3)) := (Kept.refl _).alloc _
    have h := ibounds_any _ v [1, 6] exPs 1 _ (ints_16 W) (h2.kept hk) ex_short3 (by decide) (Or.inl (by decide))
    rw [ex_bnd, ex_inc 1 (by omega) (by omega), errV_zero] at h
    exact h.mono fun e w' ⟨h1, h2⟩ => ⟨h1, hk.trans h2⟩
  have HTX : Hid (∀ W v, RatAt W v (canR (mkRat 29 200)) → Calls Tryz.prog 83 #[v] W fun e w' => e = .returned (.string ⟨#[50, 57, 47, 50, 48, 48]⟩) ∧ Kept W w') := Lib.hid fun W v h => rtext_frac v _ 29 200 [50, 57] [50, 48, 48] [50, 57, 47, 50, 48, 48] W h (by decide +kernel) (by decide +kernel) (by decide) (by decide) (by decide) (by decide) (by decide) (by decide) (by decide) (by decide) (by decide)
  have HSX : Hid (∀ W v, SpanV W v (canR 0) (canR (mkRat 3 20)) → Calls Tryz.prog 50 #[v] W fun e w' => e = .returned (.string ⟨#[48, 46, 46, 51, 47, 50, 48]⟩) ∧ Kept W w') := Lib.hid fun W v h => stext_any v 0 (mkRat 3 20) [48] [51, 47, 50, 48] W h (by decide +kernel) ⟨by decide +kernel, by decide +kernel⟩ ⟨by decide +kernel, by decide +kernel⟩
    (fun W u hu => rtext_zero u W hu) (fun W u hu => rtext_frac u _ 3 20 [51] [50, 48] [51, 47, 50, 48] W hu (by decide +kernel) (by decide +kernel) (by decide) (by decide) (by decide) (by decide) (by decide) (by decide) (by decide) (by decide) (by decide)) (by decide) (by decide)
  go_enter Tryz.func36, Tryz.ntmps36
  go_wp2_with fail
  refine (HM1.out _).mono ?_
  rintro e w1 ⟨⟨v, rfl, hv⟩, hk⟩
  obtain ⟨n2, l2, m2, a2, c2, b2, d2, w2, rfl, hw, hc, hk2, hr, _⟩ := hv.box
  have HC2 := Lib.hid hc
  have HW2 := Lib.hid hw
  have HK2 := Lib.hid (hk.trans hk2)
  clear hv hk hw hc hk2 hr
  go_wp2_with fail
  rw [← HW2.out]
  refine (HM2.out _).mono ?_
  rintro e w3 ⟨⟨v, rfl, hv⟩, hk⟩
  obtain ⟨n4, l4, m4, a4, c4, b4, d4, w4, rfl, hw, hc, hk2, hr, _⟩ := hv.box
  have HC4 := Lib.hid hc
  have HW4 := Lib.hid hw
  have SK4 := Lib.hid (hk.trans hk2)
  clear hv hk hw hc hk2 hr
  go_wp2_with fail
  rw [← HW4.out]
  refine (HM3.out _).mono ?_
  rintro e w5 ⟨⟨v, rfl, hv⟩, hk⟩
  obtain ⟨n6, l6, m6, a6, c6, b6, d6, w6, rfl, hw, hc, hk2, hr, _⟩ := hv.box
  have HC6 := Lib.hid hc
  have HR6 := Lib.hid hr
  have HW6 := Lib.hid hw
  have SK5 := Lib.hid hk
  have SK6 := Lib.hid (hk.trans hk2)
  have HK56 := Lib.hid hk2
  have HK6 := Lib.hid (SK4.out.trans SK6.out)
  clear hv hk hw hc hk2 hr
  obtain ⟨p1, p2, p3, q1, r1, q2, r2, x0, x1, x2, hlx, HXA⟩ := (HC2.out.kept (SK4.out.trans SK5.out)).read
  obtain ⟨p4, p5, p6, q3, r3, q4, r4, y0, y1, y2, hly, HYA⟩ := (HC4.out.kept SK5.out).read
  have hs6 : w6.heap.size = w5.heap.size + 1 := by rw [HW6.out]; simp
  have HRT := Lib.hid (rats_three3 (HXA.out.kept HK56.out) (HYA.out.kept HK56.out) HR6.out)
  obtain ⟨w7, hw7⟩ : ∃ w7, w7 = w6.alloc (.cells #[.bool p1, .slice q1 p2 r1, .slice q2 p3 r2, .bool p4, .slice q3 p5 r3, .slice q4 p6 r4, .bool n6, .slice a6 l6 c6, .slice b6 m6 d6] 39) := ⟨_, rfl⟩
  rw [← hw7, hs6] at HRT
  have HK7 : Hid (Kept w6 w7) := Lib.hid (by rw [hw7]; exact (Kept.refl _).alloc _)
  have HW7 := Lib.hid hw7
  have hs7 : w7.heap.size = w5.heap.size + 1 + 1 := by rw [hw7]; simp [hs6]
  have HS7 := Lib.hid hs7
  clear hw7 hs6 hs7
  go_wp2_with fail
  rw [← HW6.out, ← HW7.out]
  refine (HEX.out _ _ _ HS7.out HRT.out).mono ?_
  rintro e w8 ⟨⟨v, rfl, hv⟩, hk⟩
  obtain ⟨n9, l9, m9, a9, c9, b9, d9, w9, rfl, hw, hc, hk2, hr, hz9⟩ := hv.box
  have HS9 := Lib.hid hz9
  clear hz9
  have HC9 := Lib.hid hc
  have HW9 := Lib.hid hw
  have SK9 := Lib.hid (hk.trans hk2)
  have HK9 := Lib.hid (HK7.out.trans SK9.out)
  have HRT9 := Lib.hid (HRT.out.kept SK9.out)
  clear hv hk hw hc hk2 hr x0 x1 x2 hlx y0 y1 y2 hly
  go_wp2_with fail
  rw [← HW9.out]
  refine (HBD.out _ _ _ HS9.out HRT9.out).mono ?_
  rintro e w10 ⟨⟨v, rfl, hv⟩, hk⟩
  obtain ⟨n7, l7, m7, n8, l8, m8, a7, c7, b7, d7, a8, c8, b8, d8, w11, rfl, hw, hc, hk2, hr, _⟩ := hv.box
  have HC11 := Lib.hid hc
  have HW11 := Lib.hid hw
  have SK10 := Lib.hid hk
  have HV11 := Lib.hid hr
  have KB := Lib.hid hk2
  have SK11 := Lib.hid (hk.trans hk2)
  have HK11 := Lib.hid (HK9.out.trans SK11.out)
  clear hv hk hw hc hk2 hr
  obtain ⟨p1, p2, p3, q1, r1, q2, r2, x0, x1, x2, hlx, HXT⟩ := (HC9.out.kept SK10.out).read
  go_wp2_with fail
  rw [← HW11.out]
  refine (HTX.out _ _ (HXT.out.kept KB.out)).mono ?_
  rintro e w12 ⟨rfl, hk12⟩
  have HK12 := Lib.hid (HK11.out.trans hk12)
  clear x0 x1 x2 hlx
  obtain ⟨f1, f2, f3, f4, f5, f6, q3, r3, q4, r4, q5, r5, q6, r6, y0, y1, y2, y3, y4, y5, hly, _, _, HYT⟩ := (HC11.out.kept hk12).read
  clear hk12
  go_wp2_with fail
  refine (HSX.out _ _ HYT.out).mono ?_
  rintro e w13 ⟨rfl, hk13⟩
  go_wp2
  go_ret
  exact ⟨rfl, HK2.out.trans (HK6.out.trans (HK12.out.trans hk13))⟩
end Go.Proofs.YtbkchheikkbebaaGreatDoor

/-
  Walk: the law InclusionSums returns true, whatever the family, the fractions and the number. Printed by gen_EB.py.
-/
namespace Go.Proofs.YtbkchheikkbebaaGreatDoor
open Go.RowKit

set_option maxRecDepth 100000 in
set_option maxHeartbeats 16000000 in
theorem insums_true (xv v : Value) (xs : List Int) (ps : List Rw) (k : Int) (w : World) (hx : IntsAt w xv xs) (hv : RatsRaw w v ps) (_ : (Lit.int .i64 k).wf = true) : Calls Tryz.prog 10 #[xv, v, .int .i64 k] w fun e w' => e = .returned (.bool true) ∧ Kept w w' := by
  have HA : Hid (∀ W, Calls Tryz.prog 36 #[] W fun e w' => e = .returned (.bool true) ∧ Kept W w') := Lib.hid fun W => awake39_ok W
  have HL := Lib.hid (fun W (h : Kept w W) => large_any v ps W (hv.kept h))
  obtain ⟨xa, xc, hxs, _⟩ := id hx
  obtain ⟨n, hn⟩ : ∃ n, n = xs.length := ⟨_, rfl⟩
  rw [← hn] at hxs
  obtain ⟨pa, pc, hps, _⟩ := id hv
  obtain ⟨pn, hpn⟩ : ∃ pn, pn = ps.length := ⟨_, rfl⟩
  rw [← hpn] at hps
  subst hxs hps
  have HX := Lib.hid hx
  have HRV := Lib.hid hv
  have HNN := Lib.hid hn
  have HPN := Lib.hid hpn
  clear hx hv hn hpn
  obtain ⟨mb, hmb⟩ : ∃ mb, mb = many9 n := ⟨_, rfl⟩
  have HMN : Hid (∀ W, Calls Tryz.prog 37 #[.slice xa n xc] W fun e w' => e = .returned (.bool mb) ∧ w' = W) := Lib.hid fun W => by rw [hmb]; exact many39_any xa n xc W
  have HSM : Hid (mb = false → n ≤ 6 ∨ 12 < n) := Lib.hid fun h => many9_small (hmb ▸ h)
  clear hmb
  go_enter Tryz.func10, Tryz.ntmps10
  go_wp2_with fail
  refine (HA.out _).mono ?_
  rintro e w1 ⟨rfl, hk1⟩
  have HK1 := Lib.hid hk1
  clear hk1
  go_wp2_with fail
  refine (HMN.out _).mono ?_
  rintro e w2 ⟨rfl, h2⟩
  rw [h2]
  clear h2
  cases mb with
  | true =>
    go_wp2_with fail
    refine (HA.out _).mono ?_
    rintro e w3 ⟨rfl, hk3⟩
    go_wp2
    go_ret
    exact ⟨rfl, HK1.out.trans hk3⟩
  | false =>
    go_wp2_with fail
    refine (HL.out _ HK1.out).mono ?_
    rintro e w2 ⟨⟨u2, rfl, bb, rfl, hbb⟩, hk2⟩
    have HK2 := Lib.hid (HK1.out.trans hk2)
    have HBB := Lib.hid hbb
    clear hk2 hbb
    cases bb with
    | true =>
      go_wp2_with fail
      refine (HA.out _).mono ?_
      rintro e w3 ⟨rfl, hk3⟩
      go_wp2
      go_ret
      exact ⟨rfl, HK2.out.trans hk3⟩
    | false =>
      obtain ⟨h30, hs3⟩ := HBB.out rfl
      have HPV := Lib.hid (HRV.out.small fun r hr => ⟨Nat.le_trans (hs3 r hr).1 (by omega), Nat.le_trans (hs3 r hr).2 (by omega)⟩)
      have HN6 : Hid (xs.length ≤ 6 ∨ 12 < xs.length) := Lib.hid (by rw [← HNN.out]; first | exact HSM.out rfl | exact HSM.out trivial | simpa using HSM.out)
      have HS3 := Lib.hid hs3
      have H30 := Lib.hid h30
      clear h30 hs3
      obtain ⟨Q, hQ⟩ : ∃ Q, Q = incE xs ps k := ⟨_, rfl⟩
      obtain ⟨R, hR⟩ : ∃ R, R = canR (sumV xs ps k) := ⟨_, rfl⟩
      obtain ⟨P, hP⟩ : ∃ P, P = canR (partV xs ps k) := ⟨_, rfl⟩
      have HNU : Hid (∀ W, Calls Tryz.prog 25 #[errV Q] W fun e w' => e = .returned (.int .i64 Q) ∧ W = w') := Lib.hid fun W => num_eq Q W (by have := incE_le xs ps k; omega)
      have HSU : Hid (∀ W, Kept w W → Calls Tryz.prog 48 #[.slice xa n xc, .slice pa pn pc, .int .i64 k] W fun e w' => (∃ v', e = .returned (.tuple #[v', errV Q]) ∧ RatAt w' v' R) ∧ Kept W w') := Lib.hid fun W h => by
        rw [hQ, hR]
        exact isum_any _ _ xs ps k W (HX.out.kept h) (HPV.out.kept h) HS3.out H30.out HN6.out
      have HRS : Hid (∀ W, Kept w W → Calls Tryz.prog 49 #[.slice xa n xc, .slice pa pn pc, .int .i64 k] W fun e w' => (∃ v', e = .returned (.tuple #[v', .int .i64 (Q : Nat)]) ∧ RatAt w' v' R) ∧ Kept W w') := Lib.hid fun W h => by
        rw [hQ, hR]
        exact rinsum_any _ _ xs ps k W (HX.out.kept h) (HPV.out.kept h) HS3.out H30.out HN6.out
      have HPA : Hid (∀ W, Kept w W → Calls Tryz.prog 43 #[.slice xa n xc, .slice pa pn pc, .int .i64 k] W fun e w' => (∃ v', e = .returned (.tuple #[v', errV Q]) ∧ RatAt w' v' P) ∧ Kept W w') := Lib.hid fun W h => by
        rw [hQ, hP]
        exact ipartial_any _ _ xs ps k W (HX.out.kept h) (HPV.out.kept h) HS3.out H30.out HN6.out
      have HRP : Hid (∀ W, Kept w W → Calls Tryz.prog 39 #[.slice xa n xc, .slice pa pn pc, .int .i64 k] W fun e w' => (∃ v', e = .returned (.tuple #[v', .int .i64 (Q : Nat)]) ∧ RatAt w' v' P) ∧ Kept W w') := Lib.hid fun W h => by
        rw [hQ, hP]
        exact rinpart_any _ _ xs ps k W (HX.out.kept h) (HPV.out.kept h) HS3.out H30.out HN6.out
      clear hQ hR hP
      go_wp2_with fail
      refine (HSU.out _ HK2.out).mono ?_
      rintro e w3 ⟨⟨v, rfl, hv⟩, hk⟩
      obtain ⟨n3, l3, m3, a3, c3, b3, d3, w4, rfl, hw, hc, hk2, hr, _⟩ := hv.box
      have HC4 := Lib.hid hc
      have HW4 := Lib.hid hw
      have HV4 := Lib.hid hr
      have SK3 := Lib.hid hk
      have KB4 := Lib.hid hk2
      have SK4 := Lib.hid (hk.trans hk2)
      have HK4 := Lib.hid (HK2.out.trans SK4.out)
      clear hv hk hw hc hk2 hr
      go_wp2_with fail
      rw [← HW4.out]
      refine (HRS.out _ HK4.out).mono ?_
      rintro e w5 ⟨⟨v, rfl, hv⟩, hk⟩
      obtain ⟨n5, l5, m5, a5, c5, b5, d5, w6, rfl, hw, hc, hk2, hr, _⟩ := hv.box
      have HC6 := Lib.hid hc
      have HW6 := Lib.hid hw
      have HV6 := Lib.hid hr
      have SK5 := Lib.hid hk
      have KB6 := Lib.hid hk2
      have SK6 := Lib.hid (hk.trans hk2)
      have HK6 := Lib.hid (HK4.out.trans SK6.out)
      clear hv hk hw hc hk2 hr
      go_wp2_with fail
      rw [← HW6.out]
      refine (HPA.out _ HK6.out).mono ?_
      rintro e w7 ⟨⟨v, rfl, hv⟩, hk⟩
      obtain ⟨n7, l7, m7, a7, c7, b7, d7, w8, rfl, hw, hc, hk2, hr, _⟩ := hv.box
      have HC8 := Lib.hid hc
      have HW8 := Lib.hid hw
      have HV8 := Lib.hid hr
      have SK7 := Lib.hid hk
      have KB8 := Lib.hid hk2
      have SK8 := Lib.hid (hk.trans hk2)
      have HK8 := Lib.hid (HK6.out.trans SK8.out)
      clear hv hk hw hc hk2 hr
      go_wp2_with fail
      rw [← HW8.out]
      refine (HRP.out _ HK8.out).mono ?_
      rintro e w9 ⟨⟨v, rfl, hv⟩, hk⟩
      obtain ⟨n9, l9, m9, a9, c9, b9, d9, w10, rfl, hw, hc, hk2, hr, _⟩ := hv.box
      have HC10 := Lib.hid hc
      have HW10 := Lib.hid hw
      have HV10 := Lib.hid hr
      have SK9 := Lib.hid hk
      have KB10 := Lib.hid hk2
      have SK10 := Lib.hid (hk.trans hk2)
      have HK10 := Lib.hid (HK8.out.trans SK10.out)
      clear hv hk hw hc hk2 hr
      obtain ⟨p1, p2, p3, q1, r1, q2, r2, x0, x1, x2, hlx, HXA⟩ := (HC4.out.kept (SK6.out.trans (SK8.out.trans SK10.out))).read
      obtain ⟨p4, p5, p6, q3, r3, q4, r4, y0, y1, y2, hly, HYA⟩ := (HC6.out.kept (SK8.out.trans SK10.out)).read
      go_wp2_with fail
      rw [← HW10.out]
      refine (HNU.out _).mono ?_
      rintro e w11 ⟨rfl, rfl⟩
      go_wp2_with fail
      refine (rat_true _ _ R _ HXA.out HYA.out).mono ?_
      rintro e w12 ⟨rfl, hk12⟩
      clear x0 x1 x2 y0 y1 y2 hlx hly
      obtain ⟨p7, p8, p9, q5, r5, q6, r6, x0, x1, x2, hlx, HZA⟩ := (HC8.out.kept (SK10.out.trans hk12)).read
      obtain ⟨s1, s2, s3, q7, r7, q8, r8, y0, y1, y2, hly, HTA⟩ := (HC10.out.kept hk12).read
      have HK12 := Lib.hid (HK10.out.trans hk12)
      clear hk12
      go_wp2_with fail
      refine (HNU.out _).mono ?_
      rintro e w13 ⟨rfl, rfl⟩
      go_wp2_with fail
      refine (rat_true _ _ P _ HZA.out HTA.out).mono ?_
      rintro e w14 ⟨rfl, hk14⟩
      go_wp2
      go_ret
      exact ⟨rfl, HK12.out.trans hk14⟩
end Go.Proofs.YtbkchheikkbebaaGreatDoor

/-
  Walk: the law InclusionBounds returns true, whatever the family, the fractions and the number. Printed by gen_EB.py.
-/
namespace Go.Proofs.YtbkchheikkbebaaGreatDoor
open Go.RowKit

set_option maxRecDepth 100000 in
set_option maxHeartbeats 16000000 in
theorem inbounds_true (xv v : Value) (xs : List Int) (ps : List Rw) (k : Int) (w : World) (hx : IntsAt w xv xs) (hv : RatsRaw w v ps) (_ : (Lit.int .i64 k).wf = true) : Calls Tryz.prog 7 #[xv, v, .int .i64 k] w fun e w' => e = .returned (.bool true) ∧ Kept w w' := by
  have HA : Hid (∀ W, Calls Tryz.prog 36 #[] W fun e w' => e = .returned (.bool true) ∧ Kept W w') := Lib.hid fun W => awake39_ok W
  have HL := Lib.hid (fun W (h : Kept w W) => large_any v ps W (hv.kept h))
  obtain ⟨xa, xc, hxs, _⟩ := id hx
  obtain ⟨n, hn⟩ : ∃ n, n = xs.length := ⟨_, rfl⟩
  rw [← hn] at hxs
  obtain ⟨pa, pc, hps, _⟩ := id hv
  obtain ⟨pn, hpn⟩ : ∃ pn, pn = ps.length := ⟨_, rfl⟩
  rw [← hpn] at hps
  subst hxs hps
  have HX := Lib.hid hx
  have HRV := Lib.hid hv
  have HNN := Lib.hid hn
  have HPN := Lib.hid hpn
  clear hx hv hn hpn
  obtain ⟨mb, hmb⟩ : ∃ mb, mb = many9 n := ⟨_, rfl⟩
  have HMN : Hid (∀ W, Calls Tryz.prog 37 #[.slice xa n xc] W fun e w' => e = .returned (.bool mb) ∧ w' = W) := Lib.hid fun W => by rw [hmb]; exact many39_any xa n xc W
  have HSM : Hid (mb = false → n ≤ 6 ∨ 12 < n) := Lib.hid fun h => many9_small (hmb ▸ h)
  clear hmb
  go_enter Tryz.func7, Tryz.ntmps7
  go_wp2_with fail
  refine (HA.out _).mono ?_
  rintro e w1 ⟨rfl, hk1⟩
  have HK1 := Lib.hid hk1
  clear hk1
  go_wp2_with fail
  refine (HMN.out _).mono ?_
  rintro e w2 ⟨rfl, h2⟩
  rw [h2]
  clear h2
  cases mb with
  | true =>
    go_wp2_with fail
    refine (HA.out _).mono ?_
    rintro e w3 ⟨rfl, hk3⟩
    go_wp2
    go_ret
    exact ⟨rfl, HK1.out.trans hk3⟩
  | false =>
    go_wp2_with fail
    refine (HL.out _ HK1.out).mono ?_
    rintro e w2 ⟨⟨u2, rfl, bb, rfl, hbb⟩, hk2⟩
    have HK2 := Lib.hid (HK1.out.trans hk2)
    have HBB := Lib.hid hbb
    clear hk2 hbb
    cases bb with
    | true =>
      go_wp2_with fail
      refine (HA.out _).mono ?_
      rintro e w3 ⟨rfl, hk3⟩
      go_wp2
      go_ret
      exact ⟨rfl, HK2.out.trans hk3⟩
    | false =>
      obtain ⟨h30, hs3⟩ := HBB.out rfl
      have HPV := Lib.hid (HRV.out.small fun r hr => ⟨Nat.le_trans (hs3 r hr).1 (by omega), Nat.le_trans (hs3 r hr).2 (by omega)⟩)
      have HN6 : Hid (xs.length ≤ 6 ∨ 12 < xs.length) := Lib.hid (by rw [← HNN.out]; first | exact HSM.out rfl | exact HSM.out trivial | simpa using HSM.out)
      have HS3 := Lib.hid hs3
      have H30 := Lib.hid h30
      clear h30 hs3
      obtain ⟨Q, hQ⟩ : ∃ Q, Q = incE xs ps 12 := ⟨_, rfl⟩
      obtain ⟨R, hR⟩ : ∃ R, R = canR (partV xs ps 12) := ⟨_, rfl⟩
      obtain ⟨T, hT⟩ : ∃ T, T = incE xs ps k := ⟨_, rfl⟩
      obtain ⟨lo, hlo⟩ : ∃ lo, lo = canR (bndV xs ps k).1 := ⟨_, rfl⟩
      obtain ⟨hi, hhi⟩ : ∃ hi, hi = canR (bndV xs ps k).2 := ⟨_, rfl⟩
      have HNU : Hid (∀ W, Calls Tryz.prog 25 #[errV Q] W fun e w' => e = .returned (.int .i64 Q) ∧ W = w') := Lib.hid fun W => num_eq Q W (by have := incE_le xs ps 12; omega)
      have HNT : Hid (∀ W, Calls Tryz.prog 25 #[errV T] W fun e w' => e = .returned (.int .i64 T) ∧ W = w') := Lib.hid fun W => num_eq T W (by have := incE_le xs ps k; omega)
      have HSU : Hid (∀ W, Kept w W → Calls Tryz.prog 38 #[.slice xa n xc, .slice pa pn pc] W fun e w' => (∃ v', e = .returned (.tuple #[v', errV Q]) ∧ RatAt w' v' R) ∧ Kept W w') := Lib.hid fun W h => by
        rw [hQ, hR]
        exact iexact_any _ _ xs ps W (HX.out.kept h) (HPV.out.kept h) HS3.out H30.out HN6.out
      have HRS : Hid (∀ W, Kept w W → Calls Tryz.prog 39 #[.slice xa n xc, .slice pa pn pc, .int .i64 12] W fun e w' => (∃ v', e = .returned (.tuple #[v', .int .i64 (Q : Nat)]) ∧ RatAt w' v' R) ∧ Kept W w') := Lib.hid fun W h => by
        rw [hQ, hR]
        exact rinpart_any _ _ xs ps 12 W (HX.out.kept h) (HPV.out.kept h) HS3.out H30.out HN6.out
      have HPA : Hid (∀ W, Kept w W → Calls Tryz.prog 40 #[.slice xa n xc, .slice pa pn pc, .int .i64 k] W fun e w' => (∃ v', e = .returned (.tuple #[v', errV T]) ∧ SpanV w' v' lo hi) ∧ Kept W w') := Lib.hid fun W h => by
        rw [hT, hlo, hhi]
        exact ibounds_any _ _ xs ps k W (HX.out.kept h) (HPV.out.kept h) HS3.out H30.out HN6.out
      have HRP : Hid (∀ W, Kept w W → Calls Tryz.prog 41 #[.slice xa n xc, .slice pa pn pc, .int .i64 k] W fun e w' => (∃ v', e = .returned (.tuple #[v', .int .i64 (T : Nat)]) ∧ SpanV w' v' lo hi) ∧ Kept W w') := Lib.hid fun W h => by
        rw [hT, hlo, hhi]
        exact rinbnd_any _ _ xs ps k W (HX.out.kept h) (HPV.out.kept h) HS3.out H30.out HN6.out
      clear hQ hR hT hlo hhi
      go_wp2_with fail
      refine (HSU.out _ HK2.out).mono ?_
      rintro e w3 ⟨⟨v, rfl, hv⟩, hk⟩
      obtain ⟨n3, l3, m3, a3, c3, b3, d3, w4, rfl, hw, hc, hk2, hr, _⟩ := hv.box
      have HC4 := Lib.hid hc
      have HW4 := Lib.hid hw
      have HV4 := Lib.hid hr
      have SK3 := Lib.hid hk
      have KB4 := Lib.hid hk2
      have SK4 := Lib.hid (hk.trans hk2)
      have HK4 := Lib.hid (HK2.out.trans SK4.out)
      clear hv hk hw hc hk2 hr
      go_wp2_with fail
      rw [← HW4.out]
      refine (HRS.out _ HK4.out).mono ?_
      rintro e w5 ⟨⟨v, rfl, hv⟩, hk⟩
      obtain ⟨n5, l5, m5, a5, c5, b5, d5, w6, rfl, hw, hc, hk2, hr, _⟩ := hv.box
      have HC6 := Lib.hid hc
      have HW6 := Lib.hid hw
      have HV6 := Lib.hid hr
      have SK5 := Lib.hid hk
      have KB6 := Lib.hid hk2
      have SK6 := Lib.hid (hk.trans hk2)
      have HK6 := Lib.hid (HK4.out.trans SK6.out)
      clear hv hk hw hc hk2 hr
      go_wp2_with fail
      rw [← HW6.out]
      refine (HPA.out _ HK6.out).mono ?_
      rintro e w7 ⟨⟨v, rfl, hv⟩, hk⟩
      obtain ⟨n7, l7, m7, n8, l8, m8, a7, c7, b7, d7, a8, c8, b8, d8, w8, rfl, hw, hc, hk2, hr, _⟩ := hv.box
      have HC8 := Lib.hid hc
      have HW8 := Lib.hid hw
      have HV8 := Lib.hid hr
      have SK7 := Lib.hid hk
      have KB8 := Lib.hid hk2
      have SK8 := Lib.hid (hk.trans hk2)
      have HK8 := Lib.hid (HK6.out.trans SK8.out)
      clear hv hk hw hc hk2 hr
      go_wp2_with fail
      rw [← HW8.out]
      refine (HRP.out _ HK8.out).mono ?_
      rintro e w9 ⟨⟨v, rfl, hv⟩, hk⟩
      obtain ⟨n9, l9, m9, n10, l10, m10, a9, c9, b9, d9, a10, c10, b10, d10, w10, rfl, hw, hc, hk2, hr, _⟩ := hv.box
      have HC10 := Lib.hid hc
      have HW10 := Lib.hid hw
      have HV10 := Lib.hid hr
      have SK9 := Lib.hid hk
      have KB10 := Lib.hid hk2
      have SK10 := Lib.hid (hk.trans hk2)
      have HK10 := Lib.hid (HK8.out.trans SK10.out)
      clear hv hk hw hc hk2 hr
      obtain ⟨p1, p2, p3, q1, r1, q2, r2, x0, x1, x2, hlx, HXA⟩ := (HC4.out.kept (SK6.out.trans (SK8.out.trans SK10.out))).read
      obtain ⟨p4, p5, p6, q3, r3, q4, r4, y0, y1, y2, hly, HYA⟩ := (HC6.out.kept (SK8.out.trans SK10.out)).read
      go_wp2_with fail
      rw [← HW10.out]
      refine (HNU.out _).mono ?_
      rintro e w11 ⟨rfl, rfl⟩
      go_wp2_with fail
      refine (rat_true _ _ R _ HXA.out HYA.out).mono ?_
      rintro e w12 ⟨rfl, hk12⟩
      clear x0 x1 x2 y0 y1 y2 hlx hly
      have HK12 := Lib.hid (HK10.out.trans hk12)
      have HC8B := Lib.hid (HC8.out.kept (SK10.out.trans hk12))
      have HC10B := Lib.hid (HC10.out.kept hk12)
      clear hk12
      obtain ⟨f1, f2, f3, f4, f5, f6, q1, r1, q2, r2, q3, r3, q4, r4, x0, x1, x2, x3, x4, x5, hlx, HXL, HXH, _⟩ := HC8B.out.read
      obtain ⟨g1, g2, g3, g4, g5, g6, q5, r5, q6, r6, q7, r7, q8, r8, y0, y1, y2, y3, y4, y5, hly, HYL, HYH, _⟩ := HC10B.out.read
      go_wp2_with fail
      refine (HNT.out _).mono ?_
      rintro e w13 ⟨rfl, rfl⟩
      go_wp2_with fail
      refine (rat_true _ _ lo _ HXL.out HYL.out).mono ?_
      rintro e w14 ⟨rfl, hk14⟩
      have HK14 := Lib.hid (HK12.out.trans hk14)
      clear x0 x1 x2 x3 x4 x5 y0 y1 y2 y3 y4 y5 hlx hly
      obtain ⟨f1, f2, f3, f4, f5, f6, q1, r1, q2, r2, q3, r3, q4, r4, x0, x1, x2, x3, x4, x5, hlx, _, HXH, _⟩ := (HC8B.out.kept hk14).read
      obtain ⟨g1, g2, g3, g4, g5, g6, q5, r5, q6, r6, q7, r7, q8, r8, y0, y1, y2, y3, y4, y5, hly, _, HYH, _⟩ := (HC10B.out.kept hk14).read
      clear hk14
      go_wp2_with fail
      refine (rat_true _ _ hi _ HXH.out HYH.out).mono ?_
      rintro e w15 ⟨rfl, hk15⟩
      go_wp2
      go_ret
      exact ⟨rfl, HK14.out.trans hk15⟩
end Go.Proofs.YtbkchheikkbebaaGreatDoor

/-
  Walk: the law InclusionAlternates returns true, whatever the family, the fractions. Printed by gen_EB.py.
-/
namespace Go.Proofs.YtbkchheikkbebaaGreatDoor
open Go.RowKit

set_option maxRecDepth 100000 in
set_option maxHeartbeats 16000000 in
theorem inalt_true (xv v : Value) (xs : List Int) (ps : List Rw) (w : World) (hx : IntsAt w xv xs) (hv : RatsRaw w v ps) : Calls Tryz.prog 8 #[xv, v] w fun e w' => e = .returned (.bool true) ∧ Kept w w' := by
  have HA : Hid (∀ W, Calls Tryz.prog 36 #[] W fun e w' => e = .returned (.bool true) ∧ Kept W w') := Lib.hid fun W => awake39_ok W
  have HL := Lib.hid (fun W (h : Kept w W) => large_any v ps W (hv.kept h))
  obtain ⟨xa, xc, hxs, _⟩ := id hx
  obtain ⟨n, hn⟩ : ∃ n, n = xs.length := ⟨_, rfl⟩
  rw [← hn] at hxs
  obtain ⟨pa, pc, hps, _⟩ := id hv
  obtain ⟨pn, hpn⟩ : ∃ pn, pn = ps.length := ⟨_, rfl⟩
  rw [← hpn] at hps
  subst hxs hps
  have HX := Lib.hid hx
  have HRV := Lib.hid hv
  have HNN := Lib.hid hn
  have HPN := Lib.hid hpn
  clear hx hv hn hpn
  obtain ⟨mb, hmb⟩ : ∃ mb, mb = many9 n := ⟨_, rfl⟩
  have HMN : Hid (∀ W, Calls Tryz.prog 37 #[.slice xa n xc] W fun e w' => e = .returned (.bool mb) ∧ w' = W) := Lib.hid fun W => by rw [hmb]; exact many39_any xa n xc W
  have HSM : Hid (mb = false → n ≤ 6 ∨ 12 < n) := Lib.hid fun h => many9_small (hmb ▸ h)
  clear hmb
  go_enter Tryz.func8, Tryz.ntmps8
  go_wp2_with fail
  refine (HA.out _).mono ?_
  rintro e w1 ⟨rfl, hk1⟩
  have HK1 := Lib.hid hk1
  clear hk1
  go_wp2_with fail
  refine (HMN.out _).mono ?_
  rintro e w2 ⟨rfl, h2⟩
  rw [h2]
  clear h2
  cases mb with
  | true =>
    go_wp2_with fail
    refine (HA.out _).mono ?_
    rintro e w3 ⟨rfl, hk3⟩
    go_wp2
    go_ret
    exact ⟨rfl, HK1.out.trans hk3⟩
  | false =>
    go_wp2_with fail
    refine (HL.out _ HK1.out).mono ?_
    rintro e w2 ⟨⟨u2, rfl, bb, rfl, hbb⟩, hk2⟩
    have HK2 := Lib.hid (HK1.out.trans hk2)
    have HBB := Lib.hid hbb
    clear hk2 hbb
    cases bb with
    | true =>
      go_wp2_with fail
      refine (HA.out _).mono ?_
      rintro e w3 ⟨rfl, hk3⟩
      go_wp2
      go_ret
      exact ⟨rfl, HK2.out.trans hk3⟩
    | false =>
      obtain ⟨h30, hs3⟩ := HBB.out rfl
      have HPV := Lib.hid (HRV.out.small fun r hr => ⟨Nat.le_trans (hs3 r hr).1 (by omega), Nat.le_trans (hs3 r hr).2 (by omega)⟩)
      have HN6 : Hid (xs.length ≤ 6 ∨ 12 < xs.length) := Lib.hid (by rw [← HNN.out]; first | exact HSM.out rfl | exact HSM.out trivial | simpa using HSM.out)
      have HS3 := Lib.hid hs3
      have H30 := Lib.hid h30
      clear h30 hs3
      obtain ⟨rb, hrb⟩ : ∃ rb, rb = decide (incE xs ps 0 = 0) := ⟨_, rfl⟩
      have HRY : Hid (∀ W, Kept w W → Calls Tryz.prog 42 #[.slice xa n xc, .slice pa pn pc] W fun e w' => e = .returned (.bool rb) ∧ Kept W w') := Lib.hid fun W h => by
        rw [hrb]
        exact ready39_any _ _ xs ps W (HX.out.kept h) (HPV.out.kept h) HS3.out H30.out HN6.out
      have HRQ : Hid (rb = true → Rdy xs ps) := Lib.hid fun h => (incE_zero (of_decide_eq_true (hrb ▸ h))).1
      clear hrb
      go_wp2_with fail
      refine (HRY.out _ HK2.out).mono ?_
      rintro e w3 ⟨rfl, hk3⟩
      have HK3 := Lib.hid (HK2.out.trans hk3)
      clear hk3
      cases rb with
      | false =>
        go_wp2_with fail
        refine (HA.out _).mono ?_
        rintro e w4 ⟨rfl, hk4⟩
        go_wp2
        go_ret
        exact ⟨rfl, HK3.out.trans hk4⟩
      | true =>
        have HRD := Lib.hid (HRQ.out rfl)
        clear HRQ HRY HMN HSM HBB
        have hl6 : (natsI xs).length ≤ 6 := by
          have h1 := HN6.out
          have h2 := HRD.out.len
          rw [HRD.out.nlen]
          omega
        have HL6 := Lib.hid hl6
        have HSH : Hid (∀ j, j ≤ 12 → (canR (altR ps (natsI xs) j)).Short 200000) := Lib.hid fun j hj => by
          have h := altR_short H30.out HS3.out HPV.out.ok HL6.out j
          exact ⟨Nat.le_trans h.1 (by omega), Nat.le_trans h.2 (by omega)⟩
        obtain ⟨X, hX⟩ : ∃ X, X = canR (altR ps (natsI xs) 12) := ⟨_, rfl⟩
        have HEX : Hid (∀ W, Kept w W → Calls Tryz.prog 38 #[.slice xa n xc, .slice pa pn pc] W fun e w' => (∃ v', e = .returned (.tuple #[v', .nilIface]) ∧ RatAt w' v' X) ∧ Kept W w') := Lib.hid fun W h => by
          have h1 := iexact_any _ _ xs ps W (HX.out.kept h) (HPV.out.kept h) HS3.out H30.out HN6.out
          have h2 := HRD.out.inc (k := 12) (by omega) (by omega)
          rw [partV, if_pos h2, h2, errV_zero] at h1
          rw [hX]
          exact h1
        have HXX := Lib.hid hX
        clear hl6 hX
        have HPA : Hid (∀ j : Nat, j ≤ 12 → ∀ W, Kept w W → Calls Tryz.prog 43 #[.slice xa n xc, .slice pa pn pc, .int .i64 j] W fun e w' => (∃ v', e = .returned (.tuple #[v', .nilIface]) ∧ RatAt w' v' (canR (altR ps (natsI xs) j))) ∧ Kept W w') := Lib.hid fun j hj W h => by
          have h1 := ipartial_any _ _ xs ps j W (HX.out.kept h) (HPV.out.kept h) HS3.out H30.out HN6.out
          have h2 := HRD.out.inc (k := j) (by omega) (by omega)
          rw [partV, if_pos h2, h2, errV_zero, Int.toNat_natCast] at h1
          exact h1
        go_wp2_with fail
        refine (HEX.out _ HK3.out).mono ?_
        rintro e w4 ⟨⟨v, rfl, hv⟩, hk⟩
        obtain ⟨n4, l4, m4, a4, c4, b4, d4, w5, rfl, hw, hc, hk2, hr, _⟩ := hv.box
        have HC5 := Lib.hid hc
        have HW5 := Lib.hid hw
        have HV5 := Lib.hid hr
        have SK4 := Lib.hid hk
        have KB5 := Lib.hid hk2
        have SK5 := Lib.hid (hk.trans hk2)
        have HK5 := Lib.hid (HK3.out.trans SK5.out)
        clear hv hk hw hc hk2 hr
        go_wp2_with fail
        rw [← HW5.out]
        go_loopg [35] 13 (fun kx sk wr => ∃ j : Nat, j ≤ 13 ∧ sk = .int .i64 j ∧ 13 - j ≤ kx ∧ Hid (Kept w5 wr))
        case atStart => exact ⟨0, by omega, rfl, by omega, Lib.hid (Kept.refl _)⟩
        case round =>
          obtain ⟨j, hj, rfl, hjx, HKq⟩ := hrel
          by_cases hlt : j < 13
          · have hji : (j : Int) < 13 := by omega
            have HPJ := Lib.hid (HPA.out j (by omega))
            obtain ⟨S, hS⟩ : ∃ S, S = sgnR (altR ps (natsI xs) j - altR ps (natsI xs) 12) := ⟨_, rfl⟩
            have HCM : Hid (∀ W u1 u2, RatAt W u1 (canR (altR ps (natsI xs) j)) → RatAt W u2 X → Calls Tryz.prog 44 #[u1, u2] W fun e w' => e = .returned (.int .i64 S) ∧ Kept W w') := Lib.hid fun W u1 u2 k1 k2 => by
              have s1 := HSH.out j (by omega)
              have s2 := HSH.out 12 (by omega)
              rw [HXX.out] at k2
              have h := rcmp_any u1 u2 _ _ W k1 k2 ⟨Nat.le_trans s1.1 (by omega), Nat.le_trans s1.2 (by omega)⟩ ⟨Nat.le_trans s2.1 (by omega), Nat.le_trans s2.2 (by omega)⟩
              rw [ratOf_can, ratOf_can, ← hS] at h
              exact h
            obtain ⟨wo, rfl⟩ : ∃ wo : World, wo = wr := ⟨_, rfl⟩
            have HKw := Lib.hid (HK5.out.trans HKq.out)
            go_wp2_with fail
            refine (HPJ.out _ HKw.out).mono ?_
            rintro e w6 ⟨⟨v, rfl, hv⟩, hk⟩
            obtain ⟨n6, l6, m6, a6, c6, b6, d6, w7, rfl, hw, hc, hk2, hr, _⟩ := hv.box
            have HC7 := Lib.hid hc
            have HW7 := Lib.hid hw
            have HV7 := Lib.hid hr
            have SK6 := Lib.hid hk
            have KB7 := Lib.hid hk2
            have SK7 := Lib.hid (hk.trans hk2)
            have HK7 := Lib.hid (HKw.out.trans SK7.out)
            clear hv hk hw hc hk2 hr
            have HKq7 := Lib.hid (HKq.out.trans SK7.out)
            rcases Nat.mod_two_eq_zero_or_one j with hpar | hpar
            · have etm : Int.tmod (j : Int) 2 = 0 := by rw [Int.tmod_eq_emod_of_nonneg (by omega)]; omega
              by_cases hnj : n ≤ j
              · have eS : S = 0 := by rw [hS, alt_top HRD.out (by rw [← HNN.out]; exact hnj), Rat.sub_self]; rfl
                have hni : (n : Int) ≤ (j : Int) := by omega
                subst eS
                clear hS
                obtain ⟨p1, p2, p3, q1, r1, q2, r2, x0, x1, x2, hlx, HXA⟩ := (HC5.out.kept (HKq.out.trans SK6.out)).read
                go_wp2_with fail
                rw [← HW7.out]
                refine (HCM.out _ _ _ HV7.out (HXA.out.kept KB7.out)).mono ?_
                rintro e w8 ⟨rfl, hk8⟩
                have HK8 := Lib.hid hk8
                clear x0 x1 x2 hlx hk8
                obtain ⟨p1, p2, p3, q1, r1, q2, r2, x0, x1, x2, hlx, HXA⟩ := (HC5.out.kept (HKq7.out.trans HK8.out)).read
                obtain ⟨p4, p5, p6, q3, r3, q4, r4, y0, y1, y2, hly, HYA⟩ := (HC7.out.kept HK8.out).read
                go_wp2_with fail
                refine (HCM.out _ _ _ HYA.out HXA.out).mono ?_
                rintro e w9 ⟨rfl, hk9⟩
                have HKE := Lib.hid (HKq7.out.trans (HK8.out.trans hk9))
                clear x0 x1 x2 y0 y1 y2 hlx hly hk9
                go_wp2_with fail
                go_roundg (13 - (j + 1))
                case measure => omega
                case rel => exact ⟨j + 1, by omega, by go_num, Nat.le_refl _, Lib.hid (HKE.out)⟩
              · have hni : ¬ (n : Int) ≤ (j : Int) := by omega
                have hS1 : ¬ 0 < S := by
                  have := (sub_le0 (altR ps (natsI xs) j) (altR ps (natsI xs) 12)).2 (alt_le HRD.out HPV.out.ok hpar)
                  omega
                clear hS
                obtain ⟨p1, p2, p3, q1, r1, q2, r2, x0, x1, x2, hlx, HXA⟩ := (HC5.out.kept (HKq.out.trans SK6.out)).read
                go_wp2_with fail
                rw [← HW7.out]
                refine (HCM.out _ _ _ HV7.out (HXA.out.kept KB7.out)).mono ?_
                rintro e w8 ⟨rfl, hk8⟩
                have HKE := Lib.hid (HKq7.out.trans hk8)
                clear x0 x1 x2 hlx hk8
                go_wp2_with fail
                go_roundg (13 - (j + 1))
                case measure => omega
                case rel => exact ⟨j + 1, by omega, by go_num, Nat.le_refl _, Lib.hid (HKE.out)⟩
            · have etm : Int.tmod (j : Int) 2 = 1 := by rw [Int.tmod_eq_emod_of_nonneg (by omega)]; omega
              by_cases hnj : n ≤ j
              · have eS : S = 0 := by rw [hS, alt_top HRD.out (by rw [← HNN.out]; exact hnj), Rat.sub_self]; rfl
                have hni : (n : Int) ≤ (j : Int) := by omega
                subst eS
                clear hS
                obtain ⟨p1, p2, p3, q1, r1, q2, r2, x0, x1, x2, hlx, HXA⟩ := (HC5.out.kept (HKq.out.trans SK6.out)).read
                go_wp2_with fail
                rw [← HW7.out]
                refine (HCM.out _ _ _ HV7.out (HXA.out.kept KB7.out)).mono ?_
                rintro e w8 ⟨rfl, hk8⟩
                have HK8 := Lib.hid hk8
                clear x0 x1 x2 hlx hk8
                obtain ⟨p1, p2, p3, q1, r1, q2, r2, x0, x1, x2, hlx, HXA⟩ := (HC5.out.kept (HKq7.out.trans HK8.out)).read
                obtain ⟨p4, p5, p6, q3, r3, q4, r4, y0, y1, y2, hly, HYA⟩ := (HC7.out.kept HK8.out).read
                go_wp2_with fail
                refine (HCM.out _ _ _ HYA.out HXA.out).mono ?_
                rintro e w9 ⟨rfl, hk9⟩
                have HKE := Lib.hid (HKq7.out.trans (HK8.out.trans hk9))
                clear x0 x1 x2 y0 y1 y2 hlx hly hk9
                go_wp2_with fail
                go_roundg (13 - (j + 1))
                case measure => omega
                case rel => exact ⟨j + 1, by omega, by go_num, Nat.le_refl _, Lib.hid (HKE.out)⟩
              · have hni : ¬ (n : Int) ≤ (j : Int) := by omega
                have hS1 : ¬ S < 0 := by
                  have := (sub_ge0 (altR ps (natsI xs) j) (altR ps (natsI xs) 12)).2 (alt_ge HRD.out HPV.out.ok hpar)
                  omega
                clear hS
                obtain ⟨p1, p2, p3, q1, r1, q2, r2, x0, x1, x2, hlx, HXA⟩ := (HC5.out.kept (HKq.out.trans SK6.out)).read
                go_wp2_with fail
                rw [← HW7.out]
                refine (HCM.out _ _ _ HV7.out (HXA.out.kept KB7.out)).mono ?_
                rintro e w8 ⟨rfl, hk8⟩
                have HKE := Lib.hid (HKq7.out.trans hk8)
                clear x0 x1 x2 hlx hk8
                go_wp2_with fail
                go_roundg (13 - (j + 1))
                case measure => omega
                case rel => exact ⟨j + 1, by omega, by go_num, Nat.le_refl _, Lib.hid (HKE.out)⟩
          · have hje : ¬ (j : Int) < 13 := by omega
            go_wp2
            go_ret
            exact ⟨rfl, HK5.out.trans HKq.out⟩
end Go.Proofs.YtbkchheikkbebaaGreatDoor
