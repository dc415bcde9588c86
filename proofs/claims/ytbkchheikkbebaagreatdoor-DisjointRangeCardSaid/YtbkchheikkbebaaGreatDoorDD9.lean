import Derived.WalkKit
import Derived.WalkSpells
import Derived.WalkLawsBesides
import Derived.Deep.QuietTactic
import Derived.BigQuiet
import Derived.Lib.Hide
import Derived.Shelf.Abstract
import Derived.Deep.RegionWith
import Derived.Laws.AppendOwnNone
import Derived.Lib.AppendZerosOnto
import Derived.Lib.SliceRun
import Derived.Lib.SlicesCompact
import Derived.Shelf.SlSortCmp.NoneTotal
import Derived.Maps.OwnOps
import Derived.Maps.OwnSet
import Derived.Maps.Views
import Derived.Deep.MidRow
import Derived.Deep.RegionHeld3
import Derived.Deep.AppendLies
import Derived.Deep.RegionLaw
import Derived.IntWalk
import Derived.StillTailTactics
import Derived.ProofKit
import Derived.OpenShut
import Derived.SizedLaws
import Derived.Lib.SmallJoins
import Derived.Deep.Slices
import Derived.Deep.Fields
import Derived.Deep.Strs
import Derived.Carry
import Derived.BigRegion
import Derived.ChangeAlike
import Derived.Deep.DeepCutAuto
import Derived.Deep.LoopGhost
import Derived.Lib.ItoaNum
import Derived.RegionTactic
import Derived.Shelf.SlSortCmp.PdqK
import Derived.Sort.LotA
import Derived.Sort.LotD2
import Derived.Lib.BitFns
import Derived.Deep.CutBlock
import Derived.Laws.IdiomStrings
import Derived.Test.YtbkchheikkbebaaGreatDoorDD8
import Derived.Test.YtbkchheikkbebaaGreatDoorDD7
import Derived.Test.YtbkchheikkbebaaGreatDoorDD5
import Derived.Test.YtbkchheikkbebaaGreatDoorDD1
import Derived.Test.YtbkchheikkbebaaGreatDoorChecked
import Derived.Test.YtbkchheikkbebaaGreatDoorDD6
import Derived.Test.YtbkchheikkbebaaGreatDoorRows
import Derived.Lay
import Derived.Stop.Joined
import Derived.Test.YtbkchheikkbebaaGreatDoorCards
import Derived.Test.YtbkchheikkbebaaGreatDoorTie
import Derived.LaidMore
import Derived.SevenTiedAt
import Derived.Test.YtbkchheikkbebaaGreatDoorDD4
/-
  Walk: awake of the laws of chapter 38.
-/
namespace Go.Proofs.YtbkchheikkbebaaGreatDoor
open Go.RowKit

/-- A literal of three fractions. -/
theorem rats_three {w : World} {r1 r2 r3 : Rw} {u1 v1 u2 v2 u3 v3 : Value} (h1 : WdsAt w u1 r1.num) (k1 : WdsAt w v1 r1.den) (h2 : WdsAt w u2 r2.num) (k2 : WdsAt w v2 r2.den) (h3 : WdsAt w u3 r3.num) (k3 : WdsAt w v3 r3.den) :
    RatsAt (w.alloc (.cells #[.bool r1.neg, u1, v1, .bool r2.neg, u2, v2, .bool r3.neg, u3, v3] 39)) (.slice (some ⟨w.heap.size, 0, none⟩) 3 3) [r1, r2, r3] := by
  have hk : Kept w (w.alloc (.cells #[.bool r1.neg, u1, v1, .bool r2.neg, u2, v2, .bool r3.neg, u3, v3] 39)) := (Kept.refl _).alloc _
  refine ⟨_, 3, rfl, ⟨by simp, fun h => by cases h⟩, by simp, fun i hi => ?_⟩
  match i, hi with
  | 0, _ =>
    refine ⟨w.heap.size, 0, u1, v1, rfl, fun j v hj => ?_, h1.kept hk, k1.kept hk⟩
    match j, hj with
    | 0, hj => simp at hj; subst hj; simp
    | 1, hj => simp at hj; subst hj; simp
    | 2, hj => simp at hj; subst hj; simp
  | 1, _ =>
    refine ⟨w.heap.size, 0, u2, v2, rfl, fun j v hj => ?_, h2.kept hk, k2.kept hk⟩
    match j, hj with
    | 0, hj => simp at hj; subst hj; simp
    | 1, hj => simp at hj; subst hj; simp
    | 2, hj => simp at hj; subst hj; simp
  | 2, _ =>
    refine ⟨w.heap.size, 0, u3, v3, rfl, fun j v hj => ?_, h3.kept hk, k3.kept hk⟩
    match j, hj with
    | 0, hj => simp at hj; subst hj; simp
    | 1, hj => simp at hj; subst hj; simp
    | 2, hj => simp at hj; subst hj; simp
theorem ints_16 (w : World) : IntsAt (w.alloc (.cells #[.int .i64 1, .int .i64 6] 3)) (.slice (some ⟨w.heap.size, 0, none⟩) 2 2) [1, 6] :=
  (RowAt.made w #[.int .i64 1, .int .i64 6] 3).ints (xs := [1, 6]) (c := 2) (by simp) (by simp)
theorem cbs_two (w : World) : CbsAt (w.alloc (.cells #[.int .i64 1, .int .i64 0, .int .i64 6, .int .i64 1] 55)) (.slice (some ⟨w.heap.size, 0, none⟩) 2 2) (ofCs [(1, 0), (6, 1)]) := by
  refine ⟨_, 2, rfl, ⟨by simp [ofCs], fun h => by cases h⟩, by simp [ofCs], fun i hi => ?_⟩
  match i, hi with
  | 0, _ =>
    refine ⟨w.heap.size, 0, rfl, fun j v hj => ?_⟩
    match j, hj with
    | 0, hj => simp [ofCs, ofC, ccells] at hj; subst hj; simp
    | 1, hj => simp [ofCs, ofC, ccells] at hj; subst hj; simp
  | 1, _ =>
    refine ⟨w.heap.size, 0, rfl, fun j v hj => ?_⟩
    match j, hj with
    | 0, hj => simp [ofCs, ofC, ccells] at hj; subst hj; simp
    | 1, hj => simp [ofCs, ofC, ccells] at hj; subst hj; simp
set_option maxRecDepth 100000 in
set_option maxHeartbeats 8000000 in
theorem awake38_ok (w : World) : Calls Tryz.prog 21 #[] w fun e w' => e = .returned (.bool true) ∧ Kept w w' := by
  have HCU : Hid (∀ W, Calls Tryz.prog 23 #[.slice (some ⟨W.heap.size, 0, none⟩) 2 2] (W.alloc (.cells #[.int .i64 1, .int .i64 6] 3)) fun e w' => (∃ v', e = .returned (.tuple #[v', .nilIface]) ∧ CbsAt w' v' (ofCs [(1, 0), (6, 1)])) ∧ Kept W w') := Lib.hid fun W => by
    have h := cubes_any _ [1, 6] _ (ints_16 W)
    rw [cubR_16] at h
    exact h.mono fun e w' ⟨h1, h2⟩ => ⟨h1, ((Kept.refl W).alloc _).trans h2⟩
  have HM1 : Hid (∀ W, Calls Tryz.prog 82 #[.int .i64 1, .int .i64 10] W fun e w' => (∃ v', e = .returned (.tuple #[v', .nilIface]) ∧ RatAt w' v' (canR (mkRat 1 10))) ∧ Kept W w') := Lib.hid fun W => rmake_any 1 10 W (by decide) (by decide) (by decide)
  have HM2 : Hid (∀ W, Calls Tryz.prog 82 #[.int .i64 1, .int .i64 5] W fun e w' => (∃ v', e = .returned (.tuple #[v', .nilIface]) ∧ RatAt w' v' (canR (mkRat 1 5))) ∧ Kept W w') := Lib.hid fun W => rmake_any 1 5 W (by decide) (by decide) (by decide)
  have HM3 : Hid (∀ W, Calls Tryz.prog 82 #[.int .i64 1, .int .i64 4] W fun e w' => (∃ v', e = .returned (.tuple #[v', .nilIface]) ∧ RatAt w' v' (canR (mkRat 1 4))) ∧ Kept W w') := Lib.hid fun W => rmake_any 1 4 W (by decide) (by decide) (by decide)
  have HPB : Hid (∀ W cv v, CbsAt W cv (ofCs [(1, 0), (6, 1)]) → RatsAt W v exPs → Calls Tryz.prog 28 #[cv, v] W fun e w' => (∃ v', e = .returned (.tuple #[v', .nilIface]) ∧ RatAt w' v' (canR (mkRat 29 200))) ∧ Kept W w') := Lib.hid fun W cv v h1 h2 => by
    have h := dprob_any cv v _ exPs W h1 h2 ex_short3 (by decide)
    rw [prb_16] at h
    exact h
  have HTX : Hid (∀ W v, RatAt W v (canR (mkRat 29 200)) → Calls Tryz.prog 83 #[v] W fun e w' => e = .returned (.string ⟨#[50, 57, 47, 50, 48, 48]⟩) ∧ Kept W w') := Lib.hid fun W v h => rtext_frac v _ 29 200 [50, 57] [50, 48, 48] [50, 57, 47, 50, 48, 48] W h (by decide +kernel) (by decide +kernel) (by decide) (by decide) (by decide) (by decide) (by decide) (by decide) (by decide) (by decide) (by decide)
  have HCB := Lib.hid (fun W va vb h1 h2 => cubes_true (ofCs [(1, 0), (6, 1)]) va vb W h1 h2)
  go_enter Tryz.func21, Tryz.ntmps21
  go_wp2_with fail
  refine (HCU.out _).mono ?_
  rintro e w1 ⟨⟨v1, rfl, hv1⟩, hk1⟩
  have HV1 := Lib.hid hv1
  have HK1 := Lib.hid hk1
  clear hv1 hk1
  go_wp2_with fail
  refine (HM1.out _).mono ?_
  rintro e w2 ⟨⟨v2, rfl, hv2⟩, hk2⟩
  obtain ⟨u1, u2, rfl, h1, h2⟩ := hv2
  have H1 := Lib.hid h1
  have H2 := Lib.hid h2
  obtain ⟨a1, c1, rfl⟩ := h1.shape
  obtain ⟨a2, c2, rfl⟩ := h2.shape
  have HK2 := Lib.hid hk2
  have hr2 := RowAt.made w2 #[.bool (canR (mkRat 1 10)).neg, .slice a1 (canR (mkRat 1 10)).num.length c1, .slice a2 (canR (mkRat 1 10)).den.length c2] 39
  obtain ⟨w3, hw3⟩ : ∃ w3, w3 = w2.alloc (.cells #[.bool (canR (mkRat 1 10)).neg, .slice a1 (canR (mkRat 1 10)).num.length c1, .slice a2 (canR (mkRat 1 10)).den.length c2] 39) := ⟨_, rfl⟩
  have HK3 : Hid (Kept w2 w3) := Lib.hid (by rw [hw3]; exact (Kept.refl _).alloc _)
  rw [← hw3] at hr2
  have HR3 := Lib.hid hr2
  have HW3 := Lib.hid hw3
  generalize hn1 : (canR (mkRat 1 10)).neg = n1 at *
  generalize hl1 : (canR (mkRat 1 10)).num.length = l1 at *
  generalize hm1 : (canR (mkRat 1 10)).den.length = m1 at *
  have HL1 := Lib.hid (And.intro hn1 (And.intro hl1 hm1))
  clear h1 h2 hk2 hr2 hw3 hn1 hl1 hm1
  go_wp2_with fail
  rw [← HW3.out]
  refine (HM2.out _).mono ?_
  rintro e w4 ⟨⟨v4, rfl, hv4⟩, hk4⟩
  obtain ⟨u3, u4, rfl, h3, h4⟩ := hv4
  have H3 := Lib.hid h3
  have H4 := Lib.hid h4
  obtain ⟨a3, c3, rfl⟩ := h3.shape
  obtain ⟨a4, c4, rfl⟩ := h4.shape
  have HK4 := Lib.hid hk4
  have hr4 := RowAt.made w4 #[.bool (canR (mkRat 1 5)).neg, .slice a3 (canR (mkRat 1 5)).num.length c3, .slice a4 (canR (mkRat 1 5)).den.length c4] 39
  obtain ⟨w5, hw5⟩ : ∃ w5, w5 = w4.alloc (.cells #[.bool (canR (mkRat 1 5)).neg, .slice a3 (canR (mkRat 1 5)).num.length c3, .slice a4 (canR (mkRat 1 5)).den.length c4] 39) := ⟨_, rfl⟩
  have HK5 : Hid (Kept w4 w5) := Lib.hid (by rw [hw5]; exact (Kept.refl _).alloc _)
  rw [← hw5] at hr4
  have HR5 := Lib.hid hr4
  have HW5 := Lib.hid hw5
  generalize hn1 : (canR (mkRat 1 5)).neg = n2 at *
  generalize hl1 : (canR (mkRat 1 5)).num.length = l2 at *
  generalize hm1 : (canR (mkRat 1 5)).den.length = m2 at *
  have HL2 := Lib.hid (And.intro hn1 (And.intro hl1 hm1))
  clear h3 h4 hk4 hr4 hw5 hn1 hl1 hm1
  go_wp2_with fail
  rw [← HW5.out]
  refine (HM3.out _).mono ?_
  rintro e w6 ⟨⟨v6, rfl, hv6⟩, hk6⟩
  obtain ⟨u5, u6, rfl, h5, h6⟩ := hv6
  have H5 := Lib.hid h5
  have H6 := Lib.hid h6
  obtain ⟨a5, c5, rfl⟩ := h5.shape
  obtain ⟨a6, c6, rfl⟩ := h6.shape
  have HK6 := Lib.hid hk6
  have hr6 := RowAt.made w6 #[.bool (canR (mkRat 1 4)).neg, .slice a5 (canR (mkRat 1 4)).num.length c5, .slice a6 (canR (mkRat 1 4)).den.length c6] 39
  obtain ⟨w7, hw7⟩ : ∃ w7, w7 = w6.alloc (.cells #[.bool (canR (mkRat 1 4)).neg, .slice a5 (canR (mkRat 1 4)).num.length c5, .slice a6 (canR (mkRat 1 4)).den.length c6] 39) := ⟨_, rfl⟩
  have HK7 : Hid (Kept w6 w7) := Lib.hid (by rw [hw7]; exact (Kept.refl _).alloc _)
  rw [← hw7] at hr6
  have HW7 := Lib.hid hw7
  have HK57 := Lib.hid (HK6.out.trans HK7.out)
  have HK37 := Lib.hid ((HK4.out.trans HK5.out).trans HK57.out)
  have HK17 := Lib.hid (HK2.out.trans (HK3.out.trans HK37.out))
  have HK56 := Lib.hid HK6.out
  have HK36 := Lib.hid ((HK4.out.trans HK5.out).trans HK6.out)
  have z0 := (HR3.out.kept HK36.out).cell (i := 0) (by simp)
  have z1 := (HR3.out.kept HK36.out).cell (i := 1) (by simp)
  have z2 := (HR3.out.kept HK36.out).cell (i := 2) (by simp)
  have y0 := (HR5.out.kept HK56.out).cell (i := 0) (by simp)
  have y1 := (HR5.out.kept HK56.out).cell (i := 1) (by simp)
  have y2 := (HR5.out.kept HK56.out).cell (i := 2) (by simp)
  simp only [List.getElem_cons_succ, List.getElem_cons_zero] at y0 y1 y2 z0 z1 z2
  have HRT := Lib.hid (rats_three (w := w7) (r1 := canR (mkRat 1 10)) (r2 := canR (mkRat 1 5)) (r3 := canR (mkRat 1 4)) (H1.out.kept (HK3.out.trans HK37.out)) (H2.out.kept (HK3.out.trans HK37.out)) (H3.out.kept (HK5.out.trans HK57.out)) (H4.out.kept (HK5.out.trans HK57.out)) (H5.out.kept HK7.out) (H6.out.kept HK7.out))
  have HV7 := Lib.hid (HV1.out.kept HK17.out)
  have hs7 : w7.heap.size = w6.heap.size + 1 := by rw [hw7]; simp
  rw [hs7] at HRT
  have hlt1 := (HR3.out.kept HK36.out).lt
  have hlt2 := (HR5.out.kept HK56.out).lt
  rw [HL1.out.1, HL2.out.1] at HRT
  generalize hn1 : (canR (mkRat 1 4)).neg = n3 at *
  generalize hl1 : (canR (mkRat 1 4)).num.length = l3 at *
  generalize hm1 : (canR (mkRat 1 4)).den.length = m3 at *
  clear h5 h6 hk6 hr6 hw7 hs7 hn1 hl1 hm1
  go_wp2_with fail
  rw [← HW7.out]
  obtain ⟨w8, hw8⟩ : ∃ w8, w8 = w7.alloc (.cells #[.bool n1, .slice a1 l1 c1, .slice a2 m1 c2, .bool n2, .slice a3 l2 c3, .slice a4 m2 c4, .bool n3, .slice a5 l3 c5, .slice a6 m3 c6] 39) := ⟨_, rfl⟩
  rw [← hw8] at HRT ⊢
  have HK8 : Hid (Kept w7 w8) := Lib.hid (by rw [hw8]; exact (Kept.refl _).alloc _)
  clear hw8
  refine (HPB.out _ _ _ (HV7.out.kept HK8.out) HRT.out).mono ?_
  rintro e w9 ⟨⟨v9, rfl, hv9⟩, hk9⟩
  have HV9 := Lib.hid hv9
  obtain ⟨u7, u8, rfl, h7, h8⟩ := hv9
  obtain ⟨a7, c7, rfl⟩ := h7.shape
  obtain ⟨a8, c8, rfl⟩ := h8.shape
  have HK9 := Lib.hid (HK8.out.trans hk9)
  have HVC := Lib.hid (HV7.out.kept HK9.out)
  have hr9 := RowAt.made w9 #[.bool (canR (mkRat 29 200)).neg, .slice a7 (canR (mkRat 29 200)).num.length c7, .slice a8 (canR (mkRat 29 200)).den.length c8] 39
  obtain ⟨w10, hw10⟩ : ∃ w10, w10 = w9.alloc (.cells #[.bool (canR (mkRat 29 200)).neg, .slice a7 (canR (mkRat 29 200)).num.length c7, .slice a8 (canR (mkRat 29 200)).den.length c8] 39) := ⟨_, rfl⟩
  have HK10 : Hid (Kept w9 w10) := Lib.hid (by rw [hw10]; exact (Kept.refl _).alloc _)
  rw [← hw10] at hr9
  have HW10 := Lib.hid hw10
  have HR10 := Lib.hid hr9
  have HVA := Lib.hid (HVC.out.kept HK10.out)
  obtain ⟨w11, hw11⟩ : ∃ w11, w11 = w10.alloc (.cells #[.int .i64 1, .int .i64 0, .int .i64 6, .int .i64 1] 55) := ⟨_, rfl⟩
  have HC11 : Hid (CbsAt w11 (.slice (some ⟨w10.heap.size, 0, none⟩) 2 2) (ofCs [(1, 0), (6, 1)])) := Lib.hid (by rw [hw11]; exact cbs_two w10)
  have hs10 : w10.heap.size = w9.heap.size + 1 := by rw [hw10]; simp
  rw [hs10] at HC11
  have HK11 : Hid (Kept w10 w11) := Lib.hid (by rw [hw11]; exact (Kept.refl _).alloc _)
  have HW11 := Lib.hid hw11
  have HCE := Lib.hid (HCB.out w11 _ _ (HVA.out.kept HK11.out) HC11.out)
  have HV10 := Lib.hid (HV9.out.kept (HK10.out.trans HK11.out))
  generalize (canR (mkRat 29 200)).neg = n4 at *
  generalize (canR (mkRat 29 200)).num.length = l4 at *
  generalize (canR (mkRat 29 200)).den.length = m4 at *
  clear h7 h8 hk9 hr9 hw10 hw11 hs10 y0 y1 y2 z0 z1 z2 hlt1 hlt2
  go_wp2_with fail
  rw [← HW10.out, ← HW11.out]
  refine HCE.out.mono ?_
  rintro e w12 ⟨rfl, hk12⟩
  have g0 := (HR10.out.kept (HK11.out.trans hk12)).cell (i := 0) (by simp)
  have g1 := (HR10.out.kept (HK11.out.trans hk12)).cell (i := 1) (by simp)
  have g2 := (HR10.out.kept (HK11.out.trans hk12)).cell (i := 2) (by simp)
  simp only [List.getElem_cons_succ, List.getElem_cons_zero] at g0 g1 g2
  have HTT := Lib.hid (HTX.out _ _ (HV10.out.kept hk12))
  have HK12 := Lib.hid hk12
  clear hk12
  go_wp2_with fail
  refine HTT.out.mono ?_
  rintro e w13 ⟨rfl, hk13⟩
  go_wp2
  go_ret
  exact ⟨rfl, HK1.out.trans (HK17.out.trans (HK9.out.trans (HK10.out.trans (HK11.out.trans (HK12.out.trans hk13)))))⟩
end Go.Proofs.YtbkchheikkbebaaGreatDoor

/-
  Walk: the law DisjointCubes returns true, whatever the list.
-/
namespace Go.Proofs.YtbkchheikkbebaaGreatDoor
open Go.RowKit

theorem chkI_le (xs : List Int) : chkI xs ≤ 13 := by
  unfold chkI
  rcases err_cases xs with h | h | h <;> rw [h] <;> simp <;> (try split) <;> (try split) <;> omega
theorem cubR_le (xs : List Int) : (cubR xs).1 ≤ 13 := by
  unfold cubR
  split
  · exact chkI_le xs
  · split <;> simp
set_option maxRecDepth 100000 in
set_option maxHeartbeats 4000000 in
theorem dcubes_true (v : Value) (xs : List Int) (w : World) (hv : IntsAt w v xs) : Calls Tryz.prog 3 #[v] w fun e w' => e = .returned (.bool true) ∧ Kept w w' := by
  have HA : Hid (∀ W, Calls Tryz.prog 21 #[] W fun e w' => e = .returned (.bool true) ∧ Kept W w') := Lib.hid fun W => awake38_ok W
  have HC := Lib.hid (fun W (h : Kept w W) => cubes_any v xs W (hv.kept h))
  have HR := Lib.hid (fun W (h : Kept w W) => refcubes_any v xs W (hv.kept h))
  obtain ⟨q, hq⟩ : ∃ q, q = (cubR xs).1 := ⟨_, rfl⟩
  obtain ⟨L, hL⟩ : ∃ L, L = ofCs (cubR xs).2 := ⟨_, rfl⟩
  have hq13 : q ≤ 13 := by rw [hq]; exact cubR_le xs
  rw [← hq, ← hL] at HC HR
  have HNU : Hid (∀ W, Calls Tryz.prog 25 #[errV q] W fun e w' => e = .returned (.int .i64 q) ∧ W = w') := Lib.hid fun W => num_eq q W (by omega)
  have HCB := Lib.hid (fun va vb W h1 h2 => cubes_true L va vb W h1 h2)
  obtain ⟨a, c, hvs, _⟩ := id hv
  obtain ⟨n, hn⟩ : ∃ n, n = xs.length := ⟨_, rfl⟩
  rw [← hn] at hvs
  subst hvs
  have HMN : Hid (∀ W, Calls Tryz.prog 22 #[.int .i64 n, .int .i64 1024] W fun e w' => e = .returned (.bool (manyB n 1024)) ∧ w' = W) := Lib.hid fun W => many_any n 1024 W
  clear hv hq hL hn
  cases hb : manyB n 1024 with
  | true =>
    rw [hb] at HMN
    clear hb
    go_enter Tryz.func3, Tryz.ntmps3
    go_wp2_with fail
    refine (HA.out _).mono ?_
    rintro e w1 ⟨rfl, hk1⟩
    have HK1 := Lib.hid hk1
    clear hk1
    go_wp2_with fail
    refine (HMN.out _).mono ?_
    rintro e w2 ⟨rfl, h2⟩
    rw [h2]
    clear h2
    go_wp2_with fail
    refine (HA.out _).mono ?_
    rintro e w3 ⟨rfl, hk3⟩
    go_wp2
    go_ret
    exact ⟨rfl, HK1.out.trans hk3⟩
  | false =>
    rw [hb] at HMN
    clear hb
    go_enter Tryz.func3, Tryz.ntmps3
    go_wp2_with fail
    refine (HA.out _).mono ?_
    rintro e w1 ⟨rfl, hk1⟩
    have HK1 := Lib.hid hk1
    clear hk1
    go_wp2_with fail
    refine (HMN.out _).mono ?_
    rintro e w2 ⟨rfl, h2⟩
    rw [h2]
    clear h2
    go_wp2_with fail
    refine (HC.out _ HK1.out).mono ?_
    rintro e w3 ⟨⟨v3, rfl, hv3⟩, hk3⟩
    have HV3 := Lib.hid hv3
    have HK3 := Lib.hid (HK1.out.trans hk3)
    clear hv3 hk3
    go_wp2_with fail
    refine (HR.out _ HK3.out).mono ?_
    rintro e w4 ⟨⟨v4, rfl, hv4⟩, hk4⟩
    have HV4 := Lib.hid hv4
    have HV3' := Lib.hid (HV3.out.kept hk4)
    have HK4 := Lib.hid (HK3.out.trans hk4)
    clear hv4 hk4
    go_wp2_with fail
    refine (HNU.out _).mono ?_
    rintro e w5 ⟨rfl, rfl⟩
    go_wp2_with fail
    refine (HCB.out _ _ _ HV3'.out HV4.out).mono ?_
    rintro e w6 ⟨rfl, hk6⟩
    go_wp2
    go_ret
    exact ⟨rfl, HK4.out.trans hk6⟩
end Go.Proofs.YtbkchheikkbebaaGreatDoor

/-
  Arguments that are lists of ints, of cubes, of fractions; laws of such arguments: from their walks to their rows' steps.
-/
namespace Go.Proofs.YtbkchheikkbebaaGreatDoor
open Go.RowKit Go.ChangeShapes Go.WideShapes Go.ChangeAt Go.Joins Go.Deep

/-- Cubes that can be read, however many. -/
def CbsRaw (w : World) (v : Value) (L : List (Int × Int)) : Prop :=
  ∃ (a : Option Addr) (c : Nat), v = .slice a L.length c ∧ (L.length ≤ c ∧ (a = none → c = 0)) ∧ L.length ≤ 140737488355328 ∧
    ∀ i (h : i < L.length), ∃ b o, a = some ⟨b, o, none⟩ ∧ w.rangeAt b (o + i * 2) (ccells L[i])
theorem CbsRaw.kept {w w' : World} {v : Value} {L : List (Int × Int)} (h : CbsRaw w v L) (hk : Kept w w') : CbsRaw w' v L := by
  obtain ⟨a, c, h1, h2, h3, h5⟩ := h
  exact ⟨a, c, h1, h2, h3, fun i hi => let ⟨b, o, h6, h7⟩ := h5 i hi; ⟨b, o, h6, rangeC_kept h7 hk⟩⟩
theorem CbsRaw.small {w : World} {v : Value} {L : List (Int × Int)} (h : CbsRaw w v L) (hl : L.length ≤ 1099511627776) : CbsAt w v L := by
  obtain ⟨a, c, h1, h2, _, h5⟩ := h
  exact ⟨a, c, h1, h2, hl, h5⟩
theorem cells_cube : Tryz.prog.cellsOf 55 = 2 := by kernel_rfl
theorem bytes_cube : Tryz.prog.bytesOf 55 = 16 := by kernel_rfl
section
variable {H : Type} {enc : TypeId × Value → H} {W : World} {base : Nat}
set_option maxRecDepth 100000 in
theorem cubes_open {fuel : Nat} {cs : List Value} {x : DataW H × List MemPlace} (hb : ∀ n ∈ x.1.weights Tryz.prog 25, n ≤ reachBytes)
    (h : DataW.trod enc Tryz.prog W base (fun _ => true) true fuel 25 cs = some x) : ∃ u L, cs = [u] ∧ CbsRaw W u L := by
  rcases open_slice Tryz.underlying25 h with ⟨rfl, rfl⟩ | ⟨a, len, cap, m, n, D, Pl, rfl, _, hl, hm, hmm, rfl, hx⟩
  · exact ⟨_, [], rfl, none, 0, rfl, ⟨by simp, fun _ => rfl⟩, by simp, fun i h => by simp at h⟩
  · simp only [if_true] at hmm
    have hmc := hmm.symm
    subst hmc
    have hbb := hb (cap * 16) (by
      simp only [DataW.weights, Tryz.underlying25, bytes_cube, List.mem_cons]
      refine .inl ?_
      simp; omega)
    simp [reachBytes] at hbb
    have each : ∀ i, i < len → ∃ y : Int × Int, ∃ b o, a = ⟨b, o, none⟩ ∧ W.rangeAt b (o + i * 2) (ccells y) := by
      intro i hi
      obtain ⟨cs', hc, ht⟩ := hx i (by omega)
      rw [cells_cube] at hc
      obtain ⟨_, hcl, hat⟩ := World.cells?_some hc
      obtain ⟨y0, y1, n', hy, hlen, g0, g1⟩ := trod_struct2 Tryz.underlying55 ht
      match cs', hcl with
      | [c0, c1], _ =>
        have q0 := hat 0 (by omega)
        have q1 := hat 1 (by omega)
        simp only [List.getElem?_cons_zero, List.getElem?_cons_succ] at q0 q1
        have k0 : Tryz.prog.cellsOf 3 = 1 := cells_int
        simp only [k0, List.drop_zero, List.drop_succ_cons, List.take_succ_cons, List.take_zero] at g0 g1
        obtain ⟨x0, e0, _⟩ := DataW.trod_int Tryz.underlying3 g0
        obtain ⟨x1, e1, _⟩ := DataW.trod_int Tryz.underlying3 g1
        simp at e0 e1
        subst e0 e1
        obtain ⟨b, o, spot⟩ := a
        have hspot : spot = none := by
          obtain ⟨cs0, hc0, _⟩ := hx 0 (by omega)
          rw [cells_cube] at hc0
          obtain ⟨_, hcl0, hat0⟩ := World.cells?_some hc0
          have h1 := hat0 0 (by omega)
          rw [List.getElem?_eq_getElem (by omega)] at h1
          exact World.cell?_spot (by simpa [Addr.add] using h1)
        subst hspot
        refine ⟨(x0, x1), b, o, rfl, fun j v hj => ?_⟩
        have hadd : ∀ j, (({ block := b, off := o, spot := none } : Addr).add (i * 2)).add j = ⟨b, o + i * 2 + j, none⟩ := fun j => by simp [Addr.add]; split <;> (try split) <;> simp_all <;> omega
        match j, hj with
        | 0, hj => simp [ccells] at hj; subst hj; rw [← hadd 0]; exact q0
        | 1, hj => simp [ccells] at hj; subst hj; rw [← hadd 1]; exact q1
    obtain ⟨L, hL⟩ : ∃ L : List (Int × Int), L.length = len ∧ ∀ i (h : i < L.length), ∃ b o, a = ⟨b, o, none⟩ ∧ W.rangeAt b (o + i * 2) (ccells L[i]) := by
      clear hb h hx
      have : ∀ k, k ≤ len → ∃ L : List (Int × Int), L.length = k ∧ ∀ i (h : i < L.length), ∃ b o, a = ⟨b, o, none⟩ ∧ W.rangeAt b (o + i * 2) (ccells L[i]) := by
        intro k
        induction k with
        | zero => intro _; exact ⟨[], rfl, fun i h => by simp at h⟩
        | succ k ih =>
          intro hk
          obtain ⟨L, h1, h2⟩ := ih (by omega)
          obtain ⟨y, b, o, h3, h4⟩ := each k (by omega)
          refine ⟨L ++ [y], by simp [h1], fun i hi => ?_⟩
          by_cases hil : i < L.length
          · obtain ⟨b', o', h5, h6⟩ := h2 i hil
            exact ⟨b', o', h5, by rw [List.getElem_append_left hil]; exact h6⟩
          · have e : i = k := by simp at hi; omega
            refine ⟨b, o, h3, ?_⟩
            rw [List.getElem_append_right (by omega)]
            simpa [h1, e] using h4
      exact this len (Nat.le_refl _)
    refine ⟨_, L, rfl, some a, cap, by rw [hL.1], ⟨by rw [hL.1]; omega, fun h => by cases h⟩, by rw [hL.1]; omega, fun i hi => ?_⟩
    obtain ⟨b, o, h5, h6⟩ := hL.2 i hi
    exact ⟨b, o, by rw [h5], h6⟩
set_option maxRecDepth 100000 in
theorem ints_arg {v : Value} {d : DataW H} {p : List MemPlace} (hv : Value.okWide Tryz.prog W .any base 22 v) (hb : ∀ n ∈ d.weights Tryz.prog 22, n ≤ reachBytes)
    (h : DataW.Trod enc Tryz.prog W 0 (fun _ => true) true 22 v d p) : ∃ xs : List Int, IntsAt W v xs := by
  obtain ⟨fuel, h1f⟩ := h
  obtain ⟨u, xs, e3, hps, _⟩ := ints_open hb h1f
  obtain ⟨a, c, rfl, _⟩ := id hps
  obtain ⟨a2, n2, c2, h5⟩ := okWide_slice Tryz.underlying22 hv
  subst h5
  have e4 : Value.slice a xs.length c = .slice a2 n2 c2 := by simpa [Value.cells] using e3.symm
  rw [← e4]
  exact ⟨xs, hps⟩
set_option maxRecDepth 100000 in
theorem cubes_arg {v : Value} {d : DataW H} {p : List MemPlace} (hv : Value.okWide Tryz.prog W .any base 25 v) (hb : ∀ n ∈ d.weights Tryz.prog 25, n ≤ reachBytes)
    (h : DataW.Trod enc Tryz.prog W 0 (fun _ => true) true 25 v d p) : ∃ xs : List (Int × Int), CbsRaw W v xs := by
  obtain ⟨fuel, h1f⟩ := h
  obtain ⟨u, xs, e3, hps⟩ := cubes_open hb h1f
  obtain ⟨a, c, rfl, _⟩ := id hps
  obtain ⟨a2, n2, c2, h5⟩ := okWide_slice Tryz.underlying25 hv
  subst h5
  have e4 : Value.slice a xs.length c = .slice a2 n2 c2 := by simpa [Value.cells] using e3.symm
  rw [← e4]
  exact ⟨xs, hps⟩
set_option maxRecDepth 100000 in
theorem rats_arg {v : Value} {d : DataW H} {p : List MemPlace} (hv : Value.okWide Tryz.prog W .any base 35 v) (hb : ∀ n ∈ d.weights Tryz.prog 35, n ≤ reachBytes)
    (h : DataW.Trod enc Tryz.prog W 0 (fun _ => true) true 35 v d p) : ∃ xs : List Rw, RatsRaw W v xs := by
  obtain ⟨fuel, h1f⟩ := h
  obtain ⟨u, xs, e3, hps⟩ := rats_open hb h1f
  obtain ⟨a, c, rfl, _⟩ := id hps
  obtain ⟨a2, n2, c2, h5⟩ := okWide_slice Tryz.underlying35 hv
  subst h5
  have e4 : Value.slice a xs.length c = .slice a2 n2 c2 := by simpa [Value.cells] using e3.symm
  rw [← e4]
  exact ⟨xs, hps⟩
end
set_option maxRecDepth 100000 in
theorem liftI {s : ChangeSpec} (F : FuncId) (fn : Func) (hs1 : s.vars = []) (hs2 : ∀ (H : Type) (d : DataW H), s.fn H [d] = { results := [.lit (.bool true)], args := [d] })
    (hp : fn.params = #[22]) (hr : fn.resultTypes = #[4])
    (walk : ∀ (W : World) (v : Value) (xs : List Int), IntsAt W v xs → Calls Tryz.prog F #[v] W fun e w' => e = .returned (.bool true) ∧ Kept W w')
    {H : Type} {enc : TypeId × Value → H} (W : World) (base : Nat) (args : Array Value) (ds gs : List (DataW H)) (before : List MemPlace)
    (hval : ∀ (j : Nat) t v, fn.params[j]? = some t → args[j]? = some v → Value.okWide Tryz.prog W .any base t v)
    (hW : DataW.Whole enc Tryz.prog fn.params.toList s.vars false W args.toList ds gs before)
    (hsz : (DataW.weightsEach Tryz.prog (fn.params.toList ++ s.plain.varTypes Tryz.prog) (ds ++ gs)).all (· ≤ reachBytes) = true) :
    Calls Tryz.prog F args W fun e W' => ∃ v, e = .returned v ∧ s.post enc Tryz.prog fn false true false false W args v W' := by
  have hW' := hW
  obtain ⟨p, q, hA, hV, rfl, hfz, _⟩ := hW
  rw [hs1] at hV
  obtain ⟨rfl, rfl⟩ := trodVars_none hV
  rw [hp] at hA hval hsz
  obtain ⟨v0, d0, rfl, rfl, h0⟩ := trodAll_one hA
  have h0k := h0
  obtain ⟨xs, hx⟩ := ints_arg (hval 0 _ _ rfl rfl) (fun n hn => by
    have := List.all_eq_true.1 hsz n (DataW.weights_mem_each (j := 0) rfl rfl n hn)
    simpa using this) h0
  have hlt : ∀ x ∈ p, x.block < W.heap.size := fun x hx => hW'.lt x (by simp [hx])
  refine (walk W v0 xs hx).mono fun e W' ⟨he, hk⟩ => ?_
  subst he
  refine ⟨_, rfl, [d0], [], p ++ [], [], p, [], hW', ?_, ?_, ?_, Below.frame hk _, fun h => by cases h⟩
  · rw [hr]
    simp only [List.append_nil, hs2]
    exact trodAll_mk1 (shut_bool Tryz.underlying4 _)
  · rw [hp]
    simp only [List.append_nil, hs2]
    exact trodAll_mk1 (Below.trod laidOutK (by kernel_rfl) (of_decide_eq_true (by kernel_rfl)) h0k hk hlt)
  · rw [hs1]
    simp only [List.append_nil, hs2]
    rfl
set_option maxRecDepth 100000 in
theorem liftIN {s : ChangeSpec} (F : FuncId) (fn : Func) (t2 : TypeId) (k2 : IntKind) (ht2 : Tryz.prog.underlying t2 = some (.int k2)) (hr2 : Tryz.prog.readableRec t2 = true) (hlt2 : t2 < Tryz.prog.types.size) (hs1 : s.vars = []) (hs2 : ∀ (H : Type) (d1 d2 : DataW H), s.fn H [d1, d2] = { results := [.lit (.bool true)], args := [d1, d2] })
    (hp : fn.params = #[22, t2]) (hr : fn.resultTypes = #[4])
    (walk : ∀ (W : World) (v : Value) (xs : List Int) (x : Int), IntsAt W v xs → (Lit.int k2 x).wf = true → Calls Tryz.prog F #[v, .int k2 x] W fun e w' => e = .returned (.bool true) ∧ Kept W w')
    {H : Type} {enc : TypeId × Value → H} (W : World) (base : Nat) (args : Array Value) (ds gs : List (DataW H)) (before : List MemPlace)
    (hval : ∀ (j : Nat) t v, fn.params[j]? = some t → args[j]? = some v → Value.okWide Tryz.prog W .any base t v)
    (hW : DataW.Whole enc Tryz.prog fn.params.toList s.vars false W args.toList ds gs before)
    (hsz : (DataW.weightsEach Tryz.prog (fn.params.toList ++ s.plain.varTypes Tryz.prog) (ds ++ gs)).all (· ≤ reachBytes) = true) :
    Calls Tryz.prog F args W fun e W' => ∃ v, e = .returned v ∧ s.post enc Tryz.prog fn false true false false W args v W' := by
  have hW' := hW
  obtain ⟨p, q, hA, hV, rfl, hfz, _⟩ := hW
  rw [hs1] at hV
  obtain ⟨rfl, rfl⟩ := trodVars_none hV
  rw [hp] at hA hval hsz
  obtain ⟨v0, v1, d0, d1, p0, p1, rfl, rfl, rfl, h0, h1⟩ := trodAll_two hA
  have h0k := h0
  have h1k := h1
  obtain ⟨xs, hxs⟩ := ints_arg (hval 0 _ _ rfl rfl) (fun n hn => by
    have := List.all_eq_true.1 hsz n (DataW.weights_mem_each (j := 0) rfl rfl n hn)
    simpa using this) h0
  obtain ⟨x, rfl, rfl, rfl, wx⟩ := open_int ht2 (hval 1 _ _ rfl rfl) h1
  have hlt : ∀ x ∈ p0, x.block < W.heap.size := fun x hx => hW'.lt x (by simp [hx])
  refine (walk W v0 xs x hxs wx).mono fun e W' ⟨he, hk⟩ => ?_
  subst he
  refine ⟨_, rfl, [d0, .lit (.int k2 x)], [], (p0 ++ []) ++ [], [], p0 ++ [], [], hW', ?_, ?_, ?_, Below.frame hk _, fun h => by cases h⟩
  · rw [hr]
    simp only [List.append_nil, hs2]
    exact trodAll_mk1 (shut_bool Tryz.underlying4 _)
  · rw [hp]
    simp only [List.append_nil, hs2]
    have := trodAll_mk2 (Below.trod laidOutK (by kernel_rfl) (of_decide_eq_true (by kernel_rfl)) h0k hk hlt) (Below.trod laidOutK hr2 hlt2 h1k hk (fun x hx => by cases hx))
    simpa using this
  · rw [hs1]
    simp only [List.append_nil, hs2]
    rfl
set_option maxRecDepth 100000 in
theorem liftCR {s : ChangeSpec} (F : FuncId) (fn : Func) (hs1 : s.vars = []) (hs2 : ∀ (H : Type) (d1 d2 : DataW H), s.fn H [d1, d2] = { results := [.lit (.bool true)], args := [d1, d2] })
    (hp : fn.params = #[25, 35]) (hr : fn.resultTypes = #[4])
    (walk : ∀ (W : World) (cv v : Value) (xs : List (Int × Int)) (ps : List Rw), CbsRaw W cv xs → RatsRaw W v ps → Calls Tryz.prog F #[cv, v] W fun e w' => e = .returned (.bool true) ∧ Kept W w')
    {H : Type} {enc : TypeId × Value → H} (W : World) (base : Nat) (args : Array Value) (ds gs : List (DataW H)) (before : List MemPlace)
    (hval : ∀ (j : Nat) t v, fn.params[j]? = some t → args[j]? = some v → Value.okWide Tryz.prog W .any base t v)
    (hW : DataW.Whole enc Tryz.prog fn.params.toList s.vars false W args.toList ds gs before)
    (hsz : (DataW.weightsEach Tryz.prog (fn.params.toList ++ s.plain.varTypes Tryz.prog) (ds ++ gs)).all (· ≤ reachBytes) = true) :
    Calls Tryz.prog F args W fun e W' => ∃ v, e = .returned v ∧ s.post enc Tryz.prog fn false true false false W args v W' := by
  have hW' := hW
  obtain ⟨p, q, hA, hV, rfl, hfz, _⟩ := hW
  rw [hs1] at hV
  obtain ⟨rfl, rfl⟩ := trodVars_none hV
  rw [hp] at hA hval hsz
  obtain ⟨v0, v1, d0, d1, p0, p1, rfl, rfl, rfl, h0, h1⟩ := trodAll_two hA
  have h0k := h0
  have h1k := h1
  obtain ⟨xs, hx⟩ := cubes_arg (hval 0 _ _ rfl rfl) (fun n hn => by
    have := List.all_eq_true.1 hsz n (DataW.weights_mem_each (j := 0) rfl rfl n hn)
    simpa using this) h0
  obtain ⟨ps, hps⟩ := rats_arg (hval 1 _ _ rfl rfl) (fun n hn => by
    have := List.all_eq_true.1 hsz n (DataW.weights_mem_each (j := 1) rfl rfl n hn)
    simpa using this) h1
  have hlt : ∀ x ∈ p0 ++ p1, x.block < W.heap.size := fun x hx => hW'.lt x (by simpa using hx)
  refine (walk W v0 v1 xs ps hx hps).mono fun e W' ⟨he, hk⟩ => ?_
  subst he
  refine ⟨_, rfl, [d0, d1], [], (p0 ++ p1) ++ [], [], p0 ++ p1, [], hW', ?_, ?_, ?_, Below.frame hk _, fun h => by cases h⟩
  · rw [hr]
    simp only [List.append_nil, hs2]
    exact trodAll_mk1 (shut_bool Tryz.underlying4 _)
  · rw [hp]
    simp only [List.append_nil, hs2]
    exact trodAll_mk2 (Below.trod laidOutK (by kernel_rfl) (of_decide_eq_true (by kernel_rfl)) h0k hk (fun x hx => hlt x (by simp [hx]))) (Below.trod laidOutK (by kernel_rfl) (of_decide_eq_true (by kernel_rfl)) h1k hk (fun x hx => hlt x (by simp [hx])))
  · rw [hs1]
    simp only [List.append_nil, hs2]
    rfl
end Go.Proofs.YtbkchheikkbebaaGreatDoor

/-
  Walk: the law DisjointProbs returns true, whatever the cubes and the fractions. Printed by gen_I17.py.
-/
namespace Go.Proofs.YtbkchheikkbebaaGreatDoor
open Go.RowKit

theorem chkCs_le (L : List (Int × Int)) : chkCs L ≤ 21 := by
  induction L with
  | nil => simp [chkCs]
  | cons c L ih =>
    unfold chkCs
    split
    · unfold chkCb; split <;> (try split) <;> omega
    · exact ih
theorem chkD_le (L : List (Int × Int)) : chkD L ≤ 21 := by
  unfold chkD
  split
  · omega
  · split
    · exact chkCs_le L
    · split <;> omega
theorem prbD_le (L : List (Int × Int)) (ps : List Rw) : (prbD L ps).1 ≤ 21 := by
  unfold prbD prbT
  split
  · exact chkD_le L
  · split
    · simp
    · split <;> simp
set_option maxRecDepth 100000 in
set_option maxHeartbeats 8000000 in
theorem dprobs_true (cv v : Value) (L0 : List (Int × Int)) (ps : List Rw) (w : World) (hc : CbsRaw w cv L0) (hv : RatsRaw w v ps) : Calls Tryz.prog 4 #[cv, v] w fun e w' => e = .returned (.bool true) ∧ Kept w w' := by
  obtain ⟨Qn, hQn⟩ : ∃ Qn, Qn = (prbD L0 ps).1 := ⟨_, rfl⟩
  obtain ⟨R, hR⟩ : ∃ R, R = canR (prbD L0 ps).2 := ⟨_, rfl⟩
  obtain ⟨q1, hq1⟩ : ∃ q1, q1 = chkD L0 := ⟨_, rfl⟩
  have hQ21 : Qn ≤ 21 := by rw [hQn]; exact prbD_le L0 ps
  have hq21 : q1 ≤ 21 := by rw [hq1]; exact chkD_le L0
  have HNUQ : Hid (∀ W, Calls Tryz.prog 25 #[errV Qn] W fun e w' => e = .returned (.int .i64 Qn) ∧ W = w') := Lib.hid fun W => num_eq Qn W (by omega)
  have HNU1 : Hid (∀ W, Calls Tryz.prog 25 #[errV q1] W fun e w' => e = .returned (.int .i64 q1) ∧ W = w') := Lib.hid fun W => num_eq q1 W (by omega)
  have HQN := Lib.hid hQn
  have HRR := Lib.hid hR
  have HQ1 := Lib.hid hq1
  clear hQn hR hq1 hQ21 hq21
  have HA : Hid (∀ W, Calls Tryz.prog 21 #[] W fun e w' => e = .returned (.bool true) ∧ Kept W w') := Lib.hid fun W => awake38_ok W
  have HL := Lib.hid (fun W (h : Kept w W) => large_any v ps W (hv.kept h))
  obtain ⟨ca, cc, hcs, _, hcl, _⟩ := id hc
  obtain ⟨n, hn⟩ : ∃ n, n = L0.length := ⟨_, rfl⟩
  rw [← hn] at hcs hcl
  have HMN : Hid (∀ W, Calls Tryz.prog 22 #[.int .i64 n, .int .i64 1024] W fun e w' => e = .returned (.bool (manyB n 1024)) ∧ w' = W) := Lib.hid fun W => many_any n 1024 W
  have HSM : Hid (manyB n 1024 = false → CbsAt w cv L0) := Lib.hid fun h => hc.small (by
    unfold manyB at h
    simp only [Bool.or_eq_false_iff, decide_eq_false_iff_not] at h
    omega)
  obtain ⟨pa, pc, hps, _⟩ := id hv
  have HRV := Lib.hid hv
  obtain ⟨pn, hpn⟩ : ∃ pn, pn = ps.length := ⟨_, rfl⟩
  have hpn2 := hpn
  rw [← hpn] at hps
  subst hcs hps
  have HPN := Lib.hid hpn2
  have HNN := Lib.hid hn
  clear hc hv hn hpn hpn2
  cases hb : manyB n 1024 with
  | true =>
    rw [hb] at HMN
    clear hb
    go_enter Tryz.func4, Tryz.ntmps4
    go_wp2_with fail
    refine (HA.out _).mono ?_
    rintro e w1 ⟨rfl, hk1⟩
    have HK1 := Lib.hid hk1
    clear hk1
    go_wp2_with fail
    refine (HMN.out _).mono ?_
    rintro e w2 ⟨rfl, h2⟩
    rw [h2]
    clear h2
    go_wp2_with fail
    refine (HA.out _).mono ?_
    rintro e w3 ⟨rfl, hk3⟩
    go_wp2
    go_ret
    exact ⟨rfl, HK1.out.trans hk3⟩
  | false =>
    have HCV := Lib.hid (HSM.out hb)
    rw [hb] at HMN
    clear hb
    go_enter Tryz.func4, Tryz.ntmps4
    go_wp2_with fail
    refine (HA.out _).mono ?_
    rintro e w1 ⟨rfl, hk1⟩
    have HK1 := Lib.hid hk1
    clear hk1
    go_wp2_with fail
    refine (HMN.out _).mono ?_
    rintro e w2 ⟨rfl, h2⟩
    rw [h2]
    clear h2
    go_wp2_with fail
    refine (HL.out _ HK1.out).mono ?_
    rintro e w2 ⟨⟨u2, rfl, bb, rfl, hbb⟩, hk2⟩
    have HK2 := Lib.hid (HK1.out.trans hk2)
    have HBB := Lib.hid hbb
    clear hk2 hbb
    cases bb with
    | true =>
      go_wp2_with fail
      refine (HA.out _).mono ?_
      rintro e w3 ⟨rfl, hk3⟩
      go_wp2
      go_ret
      exact ⟨rfl, HK2.out.trans hk3⟩
    | false =>
      obtain ⟨h30, hs3⟩ := HBB.out rfl
      have HPV := Lib.hid (HRV.out.small fun r hr => ⟨Nat.le_trans (hs3 r hr).1 (by omega), Nat.le_trans (hs3 r hr).2 (by omega)⟩)
      have HS3 := Lib.hid hs3
      have H30 := Lib.hid h30
      clear h30 hs3
      have HPB : Hid (∀ W, Kept w W → Calls Tryz.prog 28 #[.slice ca n cc, .slice pa pn pc] W fun e w' => (∃ v', e = .returned (.tuple #[v', errV Qn]) ∧ RatAt w' v' R) ∧ Kept W w') := Lib.hid fun W h => by
        rw [HQN.out, HRR.out]
        exact dprob_any _ _ L0 ps W (HCV.out.kept h) (HPV.out.kept h) HS3.out H30.out
      have HPR : Hid (∀ W, Kept w W → Calls Tryz.prog 29 #[.slice ca n cc, .slice pa pn pc] W fun e w' => (∃ v', e = .returned (.tuple #[v', .int .i64 Qn]) ∧ RatAt w' v' R) ∧ Kept W w') := Lib.hid fun W h => by
        rw [HQN.out, HRR.out]
        exact rdprob_any _ _ L0 ps W (HCV.out.kept h) (HPV.out.kept h) HS3.out H30.out
      have HCK : Hid (∀ W, Kept w W → Calls Tryz.prog 30 #[.slice ca n cc] W fun e w' => e = .returned (errV q1) ∧ Kept W w') := Lib.hid fun W h => by rw [HQ1.out]; exact dcheck_any _ L0 W (HCV.out.kept h)
      have HRK : Hid (∀ W, Kept w W → Calls Tryz.prog 31 #[.slice ca n cc] W fun e w' => e = .returned (.int .i64 q1) ∧ Kept W w') := Lib.hid fun W h => by rw [HQ1.out]; exact rdcheck_any _ L0 W (HCV.out.kept h)
      go_wp2_with fail
      refine (HPB.out _ HK2.out).mono ?_
      rintro e w3 ⟨⟨v3, rfl, hv3⟩, hk3⟩
      have HK3 := Lib.hid (HK2.out.trans hk3)
      have HV3 := Lib.hid hv3
      obtain ⟨u1, u2, rfl, h1, h2⟩ := hv3
      obtain ⟨a1, c1, rfl⟩ := h1.shape
      obtain ⟨a2, c2, rfl⟩ := h2.shape
      have hr3 := RowAt.made w3 #[.bool R.neg, .slice a1 R.num.length c1, .slice a2 R.den.length c2] 39
      obtain ⟨w4, hw4⟩ : ∃ w4, w4 = w3.alloc (.cells #[.bool R.neg, .slice a1 R.num.length c1, .slice a2 R.den.length c2] 39) := ⟨_, rfl⟩
      rw [← hw4] at hr3
      have HR3 := Lib.hid hr3
      have HK4 : Hid (Kept w3 w4) := Lib.hid (by rw [hw4]; exact (Kept.refl _).alloc _)
      have HW4 := Lib.hid hw4
      clear h1 h2 hk3 hr3 hw4
      generalize hn1 : R.num.length = n1 at HW4 HR3 HV3 ⊢
      generalize hm1 : R.den.length = m1 at HW4 HR3 HV3 ⊢
      have HNM := Lib.hid (And.intro hn1 hm1)
      clear hn1 hm1
      go_wp2_with fail
      rw [← HW4.out]
      refine (HPR.out _ (HK3.out.trans HK4.out)).mono ?_
      rintro e w5 ⟨⟨v5, rfl, hv5⟩, hk5⟩
      have HK45 := Lib.hid hk5
      have HK5 := Lib.hid (HK4.out.trans hk5)
      have HV5 := Lib.hid hv5
      obtain ⟨u3, u4, rfl, h3, h4⟩ := hv5
      obtain ⟨a3, c3, rfl⟩ := h3.shape
      obtain ⟨a4, c4, rfl⟩ := h4.shape
      rw [HNM.out.1, HNM.out.2] at HV5 ⊢
      have hr5 := RowAt.made w5 #[.bool R.neg, .slice a3 n1 c3, .slice a4 m1 c4] 39
      obtain ⟨w6, hw6⟩ : ∃ w6, w6 = w5.alloc (.cells #[.bool R.neg, .slice a3 n1 c3, .slice a4 m1 c4] 39) := ⟨_, rfl⟩
      rw [← hw6] at hr5
      have HR5 := Lib.hid hr5
      have HK6 : Hid (Kept w5 w6) := Lib.hid (by rw [hw6]; exact (Kept.refl _).alloc _)
      have HW6 := Lib.hid hw6
      have HK36 := Lib.hid (HK5.out.trans HK6.out)
      have HKW6 := Lib.hid (HK3.out.trans HK36.out)
      clear h3 h4 hk5 hr5 hw6
      go_wp2_with fail
      rw [← HW6.out]
      refine (HCK.out _ HKW6.out).mono ?_
      rintro e w7 ⟨rfl, hk7⟩
      have HK7 := Lib.hid hk7
      clear hk7
      go_wp2_with fail
      refine (HNU1.out _).mono ?_
      rintro e w7b ⟨rfl, rfl⟩
      go_wp2_with fail
      refine (HRK.out _ (HKW6.out.trans HK7.out)).mono ?_
      rintro e w8 ⟨rfl, hk8⟩
      have HK8 := Lib.hid (HK7.out.trans hk8)
      clear hk8
      have hr38 := HR3.out.kept (HK45.out.trans (HK6.out.trans HK8.out))
      have hr58 := HR5.out.kept HK8.out
      have x0 := hr38.cell (i := 0) (by simp)
      have x1 := hr38.cell (i := 1) (by simp)
      have x2 := hr38.cell (i := 2) (by simp)
      have y0 := hr58.cell (i := 0) (by simp)
      have y1 := hr58.cell (i := 1) (by simp)
      have y2 := hr58.cell (i := 2) (by simp)
      simp only [List.getElem_cons_succ, List.getElem_cons_zero] at x0 x1 x2 y0 y1 y2
      have hlx := hr38.lt
      have hly := hr58.lt
      have HRT := Lib.hid (rat_true _ _ R w8 (HV3.out.kept (HK36.out.trans HK8.out)) (HV5.out.kept (HK6.out.trans HK8.out)))
      clear hr38 hr58
      generalize R.neg = z1 at *
      go_wp2_with fail
      refine (HNUQ.out _).mono ?_
      rintro e w9 ⟨rfl, rfl⟩
      go_wp2_with fail
      refine HRT.out.mono ?_
      rintro e w10 ⟨rfl, hk10⟩
      go_wp2
      go_ret
      exact ⟨rfl, HKW6.out.trans (HK8.out.trans hk10)⟩
end Go.Proofs.YtbkchheikkbebaaGreatDoor

/-
  Walk: the law DisjointStates returns true, whatever the list and the state.
-/
namespace Go.Proofs.YtbkchheikkbebaaGreatDoor
open Go.RowKit

theorem cnt_take {l : List (Nat × Nat)} {k : Nat} (h : k < l.length) (s : Nat) : cnt (l.take (k + 1)) s = cnt (l.take k) s + if inC l[k] s = true then 1 else 0 := by
  rw [List.take_succ_eq_append_getElem h, cnt_app, cnt_cons, cnt_nil, Nat.add_zero]
theorem cubR_zero {xs : List Int} (h : (cubR xs).1 = 0) : chkI xs = 0 ∧ cubesK (natsI xs) = some (cubR xs).2 := by
  unfold cubR at h ⊢
  by_cases h0 : chkI xs = 0
  · rw [if_neg (by omega)] at h ⊢
    cases hc : cubesK (natsI xs) with
    | none => rw [hc] at h; cases h
    | some l => exact ⟨h0, rfl⟩
  · rw [if_pos h0] at h; exact absurd h h0
theorem cubR_err {xs : List Int} (h : (cubR xs).1 ≠ 4) (h0 : (cubR xs).1 ≠ 0) : (cubR xs).1 = chkI xs := by
  unfold cubR at h h0 ⊢
  by_cases hc : chkI xs = 0
  · rw [if_neg (by omega)] at h h0 ⊢
    cases hk : cubesK (natsI xs) with
    | none => rw [hk] at h; exact absurd rfl h
    | some l => rw [hk] at h0; exact absurd rfl h0
  · rw [if_pos hc]
set_option maxRecDepth 100000 in
set_option maxHeartbeats 8000000 in
theorem dstates_true (v : Value) (xs : List Int) (sx : Int) (w : World) (hv : IntsAt w v xs) (hx : (Lit.int .u32 sx).wf = true) :
    Calls Tryz.prog 5 #[v, .int .u32 sx] w fun e w' => e = .returned (.bool true) ∧ Kept w w' := by
  obtain ⟨s, rfl, hs⟩ : ∃ s : Nat, sx = s ∧ s < 4294967296 := by
    have h : 0 ≤ sx ∧ sx ≤ 4294967295 := by simpa [Lit.wf, IntKind.min, IntKind.max, IntKind.signed, IntKind.bits] using hx
    exact ⟨sx.toNat, by omega, by omega⟩
  have HA : Hid (∀ W, Calls Tryz.prog 21 #[] W fun e w' => e = .returned (.bool true) ∧ Kept W w') := Lib.hid fun W => awake38_ok W
  have HC := Lib.hid (fun W (h : Kept w W) => cubes_any v xs W (hv.kept h))
  have HF := Lib.hid (fun W (h : Kept w W) => fcheck_any v xs W (hv.kept h))
  have HV := Lib.hid hv
  obtain ⟨q, hq⟩ : ∃ q, q = (cubR xs).1 := ⟨_, rfl⟩
  obtain ⟨out, hout⟩ : ∃ out, out = (cubR xs).2 := ⟨_, rfl⟩
  have hq13 : q ≤ 13 := by rw [hq]; exact cubR_le xs
  have HQ := Lib.hid hq
  have HOU := Lib.hid hout
  rw [← hq, ← hout] at HC
  obtain ⟨a, c, hvs, _⟩ := id hv
  obtain ⟨n, hn⟩ : ∃ n, n = xs.length := ⟨_, rfl⟩
  rw [← hn] at hvs
  have HN := Lib.hid hn
  subst hvs
  have HMN : Hid (∀ W, Calls Tryz.prog 22 #[.int .i64 n, .int .i64 1024] W fun e w' => e = .returned (.bool (manyB n 1024)) ∧ w' = W) := Lib.hid fun W => many_any n 1024 W
  clear hv hq hout hn hx
  cases hb : manyB n 1024 with
  | true =>
    rw [hb] at HMN
    clear hb
    go_enter Tryz.func5, Tryz.ntmps5
    go_wp2_with fail
    refine (HA.out _).mono ?_
    rintro e w1 ⟨rfl, hk1⟩
    have HK1 := Lib.hid hk1
    clear hk1
    go_wp2_with fail
    refine (HMN.out _).mono ?_
    rintro e w2 ⟨rfl, h2⟩
    rw [h2]
    clear h2
    go_wp2_with fail
    refine (HA.out _).mono ?_
    rintro e w3 ⟨rfl, hk3⟩
    go_wp2
    go_ret
    exact ⟨rfl, HK1.out.trans hk3⟩
  | false =>
    rw [hb] at HMN
    clear hb
    go_enter Tryz.func5, Tryz.ntmps5
    go_wp2_with fail
    refine (HA.out _).mono ?_
    rintro e w1 ⟨rfl, hk1⟩
    have HK1 := Lib.hid hk1
    clear hk1
    go_wp2_with fail
    refine (HMN.out _).mono ?_
    rintro e w2 ⟨rfl, h2⟩
    rw [h2]
    clear h2
    go_wp2_with fail
    refine (HC.out _ HK1.out).mono ?_
    rintro e w3 ⟨⟨v3, rfl, hv3⟩, hk3⟩
    have HV3 := Lib.hid hv3
    have HK3 := Lib.hid (HK1.out.trans hk3)
    obtain ⟨a3, c3, rfl⟩ := hv3.shape
    rw [ofCs_len] at HV3 ⊢
    clear hv3 hk3
    by_cases hq0 : q = 0
    · subst hq0
      rw [errV_zero]
      obtain ⟨h0, hcu⟩ := cubR_zero HQ.out.symm
      rw [← HOU.out] at hcu
      obtain ⟨hlen, hok⟩ := chkI_ok h0
      obtain ⟨hxs, hmk⟩ := nats_of hok
      obtain ⟨ns, hns⟩ : ∃ ns, ns = natsI xs := ⟨_, rfl⟩
      rw [← hns] at hxs hmk hcu
      have hnl : ns.length ≤ 1024 := by rw [hns]; unfold natsI; rw [List.length_map]; exact hlen
      obtain ⟨t, ht⟩ : ∃ t, t = s % 16777216 := ⟨_, rfl⟩
      have htl : t < 16777216 := by rw [ht]; exact Nat.mod_lt _ (by decide)
      have htm : Mk t := by unfold Mk; omega
      have HCV : Hid (∀ W, Kept w W → Calls Tryz.prog 35 #[.slice a n c, .int .i64 t] W fun e w' => e = .returned (.tuple #[.bool (covB ns t), .nilIface]) ∧ Kept W w') := Lib.hid fun W h =>
        covers_any _ ns t W ⟨by rw [← hxs]; exact HV.out.kept h, hmk⟩ htm hnl
      have hb24 : ∀ b ∈ ns, b < 16777216 := fun b hb => by have := hmk b hb; unfold Mk at this; omega
      have HCN := Lib.hid (cnt_cubes hb24 hcu t)
      have HCK : Hid (∀ W, Kept w3 W → Calls Tryz.prog 30 #[.slice a3 out.length c3] W fun e w' => e = .returned .nilIface ∧ Kept W w') := Lib.hid fun W h => by
        have := dcheck_any _ (ofCs out) W (HV3.out.kept h)
        rw [cubes_chk hb24 hcu, errV_zero] at this
        exact this
      have HOK := Lib.hid (cubes_ok hb24 hcu)
      have hol := cubes_len hcu
      obtain ⟨m, hm⟩ : ∃ m, m = out.length := ⟨_, rfl⟩
      rw [← hm] at HCK HV3 hol ⊢
      have HM := Lib.hid hm
      have hmod : Int.tmod (s : Int) 16777216 = (t : Int) := by rw [ht]; rfl
      have HTL := Lib.hid htl
      obtain ⟨cb, hcb⟩ : ∃ cb, cb = covB ns t := ⟨_, rfl⟩
      rw [← hcb] at HCV HCN
      have hti : (t : Int) ≤ 16777215 := by omega
      clear hlen hok hxs hmk hns hnl hcu ht htl htm hb24 hm h0 hcb
      go_wp2_with fail
      try rw [hmod]
      refine (HCV.out _ HK3.out).mono ?_
      rintro e w4 ⟨rfl, hk4⟩
      have HK4 := Lib.hid (HK3.out.trans hk4)
      have HK34 := Lib.hid hk4
      clear hk4
      have HV4 := Lib.hid (HV3.out.kept HK34.out)
      go_wp2_with fail
      go_loopg [10, 50] m (fun kx s10 s50 wr => ∃ k r : Nat, k ≤ m ∧ r ≤ k ∧ s10 = .int .i64 r ∧ s50 = .int .i64 k ∧ m - k ≤ kx ∧ Hid (r = cnt (out.take k) t) ∧ Hid (Kept w4 wr))
      case atStart => exact ⟨0, 0, Nat.zero_le _, Nat.le_refl _, rfl, rfl, by omega, Lib.hid rfl, Lib.hid (Kept.refl _)⟩
      case round =>
        obtain ⟨k, r, hk, hrk, rfl, rfl, hkx, HR, HK⟩ := hrel
        by_cases hlt : k < m
        · have hkl : k < out.length := by have := HM.out; omega
          have hki : (k : Int) < (m : Int) := by omega
          obtain ⟨b, o, rfl, g1, g2⟩ := HV4.out.get k (by rw [ofCs_len]; exact hkl)
          have x1 := HK.out.cell g1
          have x2 := HK.out.cell g2
          rw [← Nat.add_assoc] at x2
          rw [ofCs_getD hkl] at x1 x2
          obtain ⟨o1, o2, _⟩ := HOK.out _ (List.getElem_mem hkl)
          have HT := Lib.hid (cnt_take hkl t)
          obtain ⟨y, z, hyz⟩ : ∃ y z, out[k] = (y, z) := ⟨_, _, rfl⟩
          rw [hyz] at x1 x2 o1 o2 HT
          change wr.cell? ⟨b, o + k * 2, none⟩ = some (.int .i64 (y : Int)) at x1
          change wr.cell? ⟨b, o + k * 2 + 1, none⟩ = some (.int .i64 (z : Int)) at x2
          have p1 := andNot_i64 y t (by simp only [] at o1; omega) (by have := HTL.out; omega)
          have p2 := and_i64 z t (by simp only [] at o2; omega) (by have := HTL.out; omega)
          have HIN : Hid (inC (y, z) t = ((sdiff y t == 0) && (z &&& t == 0))) := Lib.hid rfl
          obtain ⟨u, hu⟩ : ∃ u, u = sdiff y t := ⟨_, rfl⟩
          obtain ⟨u2, hu2⟩ : ∃ u2, u2 = z &&& t := ⟨_, rfl⟩
          rw [← hu] at p1 HIN
          rw [← hu2] at p2 HIN
          clear g1 g2 hu hu2 hyz o1 o2
          by_cases hu0 : u = 0
          · subst hu0
            by_cases hz0 : u2 = 0
            · subst hz0
              have HT2 : Hid (cnt (out.take (k + 1)) t = cnt (out.take k) t + 1) := Lib.hid (by rw [HT.out, HIN.out]; rfl)
              go_wp2
              go_roundg (m - (k + 1))
              case measure => omega
              case rel => exact ⟨k + 1, r + 1, by omega, by omega, by go_num, by go_num, Nat.le_refl _, Lib.hid (by rw [HT2.out, HR.out]), Lib.hid (HK.out.trans ((Kept.refl _).alloc _))⟩
            · have hz1 : ¬ (u2 : Int) = 0 := by omega
              have HT2 : Hid (cnt (out.take (k + 1)) t = cnt (out.take k) t) := Lib.hid (by rw [HT.out, HIN.out]; simp [hz0])
              go_wp2
              go_roundg (m - (k + 1))
              case measure => omega
              case rel => exact ⟨k + 1, r, by omega, by omega, rfl, by go_num, Nat.le_refl _, Lib.hid (by rw [HT2.out, HR.out]), Lib.hid (HK.out.trans ((Kept.refl _).alloc _))⟩
          · have hz1 : ¬ (u : Int) = 0 := by omega
            have HT2 : Hid (cnt (out.take (k + 1)) t = cnt (out.take k) t) := Lib.hid (by rw [HT.out, HIN.out]; simp [hu0])
            go_wp2
            go_roundg (m - (k + 1))
            case measure => omega
            case rel => exact ⟨k + 1, r, by omega, by omega, rfl, by go_num, Nat.le_refl _, Lib.hid (by rw [HT2.out, HR.out]), Lib.hid (HK.out.trans ((Kept.refl _).alloc _))⟩
        · have hkm : k = m := by omega
          subst hkm
          have hki : ¬ (k : Int) < (k : Int) := by omega
          have hr := HR.out
          rw [HM.out, List.take_length, HCN.out] at hr
          cases cb with
          | true =>
            have hr1 : r = 1 := by simpa using hr
            subst hr1
            clear hr HR HCN
            go_wp2_with fail
            refine (HCK.out _ (HK34.out.trans HK.out)).mono ?_
            rintro e w6 ⟨rfl, hk6⟩
            go_wp2
            go_ret
            exact ⟨rfl, HK4.out.trans (HK.out.trans hk6)⟩
          | false =>
            have hr1 : r = 0 := by simpa using hr
            subst hr1
            clear hr HR HCN
            go_wp2_with fail
            refine (HCK.out _ (HK34.out.trans HK.out)).mono ?_
            rintro e w6 ⟨rfl, hk6⟩
            go_wp2
            go_ret
            exact ⟨rfl, HK4.out.trans (HK.out.trans hk6)⟩
    · have e7 : errV q = .iface 50 (.int .i64 q) := errV_pos hq0
      have HIS : Hid (∀ W, Calls Tryz.prog 33 #[errV q, .int .i64 4] W fun e w' => e = .returned (.bool (q == 4)) ∧ W = w') := Lib.hid fun W => is_any q 4 hq0 W
      have HNU : Hid (∀ W, Calls Tryz.prog 25 #[errV q] W fun e w' => e = .returned (.int .i64 q) ∧ W = w') := Lib.hid fun W => num_eq q W (by omega)
      rw [e7] at HIS HNU ⊢
      by_cases hq4 : q = 4
      · subst hq4
        go_wp2_with fail
        refine (HIS.out _).mono ?_
        rintro e w4 ⟨rfl, rfl⟩
        go_wp2
        go_ret
        exact ⟨rfl, HK3.out⟩
      · have hce := cubR_err (xs := xs) (by rw [← HQ.out]; exact hq4) (by rw [← HQ.out]; exact hq0)
        rw [← hce, ← HQ.out, e7] at HF
        have hb4 : (q == 4) = false := by simpa using hq4
        rw [hb4] at HIS
        clear hce hb4
        go_wp2_with fail
        refine (HIS.out _).mono ?_
        rintro e w4 ⟨rfl, rfl⟩
        go_wp2_with fail
        refine (HNU.out _).mono ?_
        rintro e w4 ⟨rfl, rfl⟩
        go_wp2_with fail
        refine (HF.out _ HK3.out).mono ?_
        rintro e w4 ⟨rfl, hk4⟩
        have HK4 := Lib.hid hk4
        clear hk4
        go_wp2_with fail
        refine (HNU.out _).mono ?_
        rintro e w5 ⟨rfl, rfl⟩
        go_wp2
        go_ret
        exact ⟨rfl, HK3.out.trans HK4.out⟩
end Go.Proofs.YtbkchheikkbebaaGreatDoor

/-
  The words of the program's head: read once, without its characters being decoded word by word.
-/
namespace Go.Proofs.YtbkchheikkbebaaGreatDoor
open Go.RowKit

def chs (l : List Nat) : List Char := l.map Char.ofNat
theorem ws_word (w r : List Char) (h : ∀ c ∈ w, c ≠ Char.ofNat 32) : wordsSigns (w ++ Char.ofNat 32 :: r) = w :: wordsSigns r := by
  induction w with
  | nil => rfl
  | cons c w ih =>
    have hc : c ≠ Char.ofNat 32 := h c (by simp)
    have ih' := ih fun d hd => h d (List.mem_cons_of_mem _ hd)
    show wordsSigns (c :: (w ++ Char.ofNat 32 :: r)) = _
    rw [wordsSigns.eq_3 _ _ (by intro e; exact hc e), ih']
theorem apart (l : List Nat) (h : ((chs l).all fun c => c != Char.ofNat 32) = true) : ∀ c ∈ chs l, c ≠ Char.ofNat 32 := by
  intro c hc
  simpa using List.all_eq_true.1 h c hc
def wH : List Nat := [104, 97, 114, 110, 101, 115, 115]
def wS : List Nat := [51, 51, 57, 57, 101, 100, 97, 98, 100, 52, 56, 54, 49, 98, 102, 48, 101, 54, 52, 102, 48, 54, 53, 54, 52, 97, 57, 100, 57, 48, 97, 57, 48, 53, 49, 52, 101, 98, 51, 98, 55, 51, 54, 100, 57, 57, 53, 100, 54, 98, 48, 51, 100, 50, 98, 102, 55, 48, 54, 98, 101, 97, 100, 55]
def wC : List Nat := [99, 117, 116]
def wR : List Nat := [97, 116, 32, 102, 97, 117, 108, 116, 108, 105, 110, 101, 47, 102, 97, 117, 108, 116, 108, 105, 110, 101, 108, 97, 119, 51, 56, 46, 68, 105, 115, 106, 111, 105, 110, 116, 67, 117, 98, 101, 115, 32, 102, 97, 117, 108, 116, 108, 105, 110, 101, 47, 102, 97, 117, 108, 116, 108, 105, 110, 101, 108, 97, 119, 51, 56, 46, 68, 105, 115, 106, 111, 105, 110, 116, 80, 114, 111, 98, 115, 32, 102, 97, 117, 108, 116, 108, 105, 110, 101, 47, 102, 97, 117, 108, 116, 108, 105, 110, 101, 108, 97, 119, 51, 56, 46, 68, 105, 115, 106, 111, 105, 110, 116, 83, 116, 97, 116, 101, 115, 32, 102, 97, 117, 108, 116, 108, 105, 110, 101, 47, 102, 97, 117, 108, 116, 108, 105, 110, 101, 108, 97, 119, 51, 56, 46, 68, 105, 115, 106, 111, 105, 110, 116, 66, 101, 102, 111, 114, 101, 32, 102, 97, 117, 108, 116, 108, 105, 110, 101, 47, 102, 97, 117, 108, 116, 108, 105, 110, 101, 108, 97, 119, 51, 57, 46, 73, 110, 99, 108, 117, 115, 105, 111, 110, 66, 111, 117, 110, 100, 115, 32, 102, 97, 117, 108, 116, 108, 105, 110, 101, 47, 102, 97, 117, 108, 116, 108, 105, 110, 101, 108, 97, 119, 51, 57, 46, 73, 110, 99, 108, 117, 115, 105, 111, 110, 65, 108, 116, 101, 114, 110, 97, 116, 101, 115, 32, 102, 97, 117, 108, 116, 108, 105, 110, 101, 47, 102, 97, 117, 108, 116, 108, 105, 110, 101, 108, 97, 119, 51, 56, 46, 68, 105, 115, 106, 111, 105, 110, 116, 82, 97, 110, 103, 101, 32, 102, 97, 117, 108, 116, 108, 105, 110, 101, 47, 102, 97, 117, 108, 116, 108, 105, 110, 101, 108, 97, 119, 51, 57, 46, 73, 110, 99, 108, 117, 115, 105, 111, 110, 83, 117, 109, 115, 32, 102, 97, 117, 108, 116, 108, 105, 110, 101, 47, 102, 97, 117, 108, 116, 108, 105, 110, 101, 108, 97, 119, 51, 57, 46, 73, 110, 99, 108, 117, 115, 105, 111, 110, 78, 97, 114, 114, 111, 119, 115, 32, 102, 97, 117, 108, 116, 108, 105, 110, 101, 47, 102, 97, 117, 108, 116, 108, 105, 110, 101, 108, 97, 119, 51, 57, 46, 73, 110, 99, 108, 117, 115, 105, 111, 110, 84, 111, 116, 97, 108, 115, 32, 102, 97, 117, 108, 116, 108, 105, 110, 101, 47, 102, 97, 117, 108, 116, 108, 105, 110, 101, 108, 97, 119, 51, 56, 46, 68, 105, 115, 106, 111, 105, 110, 116, 84, 111, 112, 115, 32, 102, 97, 117, 108, 116, 108, 105, 110, 101, 47, 102, 97, 117, 108, 116, 108, 105, 110, 101, 108, 97, 119, 51, 56, 46, 68, 105, 115, 106, 111, 105, 110, 116, 69, 120, 97, 99, 116, 32, 102, 97, 117, 108, 116, 108, 105, 110, 101, 47, 102, 97, 117, 108, 116, 108, 105, 110, 101, 108, 97, 119, 52, 48, 46, 69, 115, 97, 114, 121, 80, 114, 111, 100, 117, 99, 116, 115, 32, 102, 97, 117, 108, 116, 108, 105, 110, 101, 47, 102, 97, 117, 108, 116, 108, 105, 110, 101, 108, 97, 119, 52, 48, 46, 69, 115, 97, 114, 121, 66, 111, 117, 110, 100, 115, 32, 102, 97, 117, 108, 116, 108, 105, 110, 101, 47, 102, 97, 117, 108, 116, 108, 105, 110, 101, 108, 97, 119, 52, 48, 46, 69, 115, 97, 114, 121, 76, 105, 107, 101, 108, 105, 101, 115, 116, 32, 102, 97, 117, 108, 116, 108, 105, 110, 101, 47, 102, 97, 117, 108, 116, 108, 105, 110, 101, 108, 97, 119, 52, 48, 46, 69, 115, 97, 114, 121, 82, 105, 115, 101, 115, 32, 102, 97, 117, 108, 116, 108, 105, 110, 101, 47, 102, 97, 117, 108, 116, 108, 105, 110, 101, 108, 97, 119, 52, 48, 46, 69, 115, 97, 114, 121, 65, 112, 97, 114, 116, 32, 102, 97, 117, 108, 116, 108, 105, 110, 101, 47, 102, 97, 117, 108, 116, 108, 105, 110, 101, 108, 97, 119, 52, 48, 46, 69, 115, 97, 114, 121, 69, 110, 99, 108, 111, 115, 101, 115]
theorem pf_order : Tryz.prog.initOrder = String.ofList (chs wH ++ Char.ofNat 32 :: (chs wS ++ Char.ofNat 32 :: (chs wC ++ Char.ofNat 32 :: chs wR))) := by kernel_rfl
theorem pf_words : wordsSigns Tryz.prog.initOrder.toList = chs wH :: chs wS :: chs wC :: wordsSigns (chs wR) := by
  rw [pf_order, String.toList_ofList, ws_word _ _ (apart _ (by kernel_rfl)), ws_word _ _ (apart _ (by kernel_rfl)), ws_word _ _ (apart _ (by kernel_rfl))]
theorem pf_behind : behindMainWord (wordsSigns Tryz.prog.initOrder.toList) = chs wC :: wordsSigns (chs wR) := by
  rw [pf_words]
  generalize wordsSigns (chs wR) = W
  have h : ((chs wH == "harness".toList || chs wH == "ownmain".toList) && isSumSigns (chs wS)) = true := by kernel_rfl
  unfold behindMainWord
  exact if_pos h
theorem pf_later : Tryz.prog.laysLater = false := by kernel_rfl
theorem pf_reflect : Tryz.prog.bearsReflect = false := by kernel_rfl
theorem pf_door : Tryz.prog.doorFits [] = true := by kernel_rfl
theorem pf_strip (W : List (List Char)) : stripLifts liftWords (chs wC :: W) = ([], chs wC :: W) := by kernel_rfl
theorem enter_of {P : Program} {c : List Char} {W : List (List Char)} (h : behindMainWord (wordsSigns P.initOrder.toList) = c :: W) (hs : stripLifts liftWords (c :: W) = ([], c :: W))
    (hc : c = "cut".toList) (hl : P.laysLater = false) (hr : P.bearsReflect = false) (hd : P.doorFits [] = true) : P.mayEnter = true := by
  have hh : ((c :: W).head? == some "cut".toList) = true := by rw [hc]; simp
  unfold Program.mayEnter
  rw [h]
  simp only [hs, hl, hr, hd, hh]
  simp
theorem main_of {P : Program} {h s : List Char} {W : List (List Char)} (hw : wordsSigns P.initOrder.toList = h :: s :: W) (hs : isSumSigns s = true) (hh : (h == "harness".toList) = true) : P.mainIs = some (true, s) := by
  unfold Program.mainIs
  rw [hw]
  simp only [hs, hh]
  rfl
theorem lifts_of {P : Program} {c : List Char} {W : List (List Char)} (h : behindMainWord (wordsSigns P.initOrder.toList) = c :: W) (hs : stripLifts liftWords (c :: W) = ([], c :: W)) : P.headLifts = [] := by
  unfold Program.headLifts
  rw [h, hs]
  dsimp only
  split <;> rfl
theorem final_of {P : Program} {c : List Char} {W : List (List Char)} (h : behindMainWord (wordsSigns P.initOrder.toList) = c :: W) (hl : P.headLifts = []) (hc : (c == "carried".toList) = false) : P.liftsFinal = false := by
  unfold Program.liftsFinal
  rw [h, hl]
  have : ((c :: W).head? == some "carried".toList) = false := by
    rw [Bool.eq_false_iff] at hc ⊢
    intro e; apply hc
    simpa using e
  simp only [this]
  rfl
theorem make_of {P : Program} {c : List Char} {W : List (List Char)} (h : behindMainWord (wordsSigns P.initOrder.toList) = c :: W) (h0 : (c == "gc".toList) = false) (h1 : (c == "spec".toList) = false) (h2 : (c == "cut".toList) = true) : P.make = some .cut := by
  unfold Program.make
  rw [h]
  simp only [h0, h1, h2]
  rfl
theorem wC_cut : chs wC = "cut".toList := by kernel_rfl
theorem pf_enter : Tryz.prog.mayEnter = true := enter_of pf_behind (pf_strip _) wC_cut pf_later pf_reflect pf_door
theorem pf_main : Tryz.prog.mainIs = some (true, "3399edabd4861bf0e64f06564a9d90a90514eb3b736d995d6b03d2bf706bead7".toList) :=
  (main_of pf_words (by kernel_rfl) (by kernel_rfl)).trans (congrArg (fun x => some (true, x)) (show chs wS = _ by kernel_rfl))
theorem pf_lifts : Tryz.prog.headLifts = [] := lifts_of pf_behind (pf_strip _)
theorem pf_final : Tryz.prog.liftsFinal = false := final_of pf_behind pf_lifts (by kernel_rfl)
theorem pf_make : Tryz.prog.make = some .cut := make_of pf_behind (by kernel_rfl) (by kernel_rfl) (by kernel_rfl)
end Go.Proofs.YtbkchheikkbebaaGreatDoor

/-
  Facts of the program that each lift asks.
-/
namespace Go.Proofs.YtbkchheikkbebaaGreatDoor
open Go.RowKit Go.ChangeShapes Go.WideShapes Go.ChangeAt

theorem pf_laidout : (laidOutB Tryz.prog) = true := by kernel_rfl
theorem pf_mapsrowed : (mapsRowed Tryz.prog) = true := by kernel_rfl
theorem pf_stops : ((Tryz.prog.stops == [])) = true := by kernel_rfl
theorem pf_knobs : ((Tryz.prog.stopKnobs == [])) = true := by kernel_rfl
theorem pf_heard : (Tryz.prog.stopsHeard) = true := by kernel_rfl
theorem pf_looks : true = Tryz.pinned.checked.prog.looks [] := by kernel_rfl
end Go.Proofs.YtbkchheikkbebaaGreatDoor

/-
  Everything that the laws of chapter 38 stand on.
-/
namespace Go.Proofs.YtbkchheikkbebaaGreatDoor
theorem iz : True := trivial
end Go.Proofs.YtbkchheikkbebaaGreatDoor
