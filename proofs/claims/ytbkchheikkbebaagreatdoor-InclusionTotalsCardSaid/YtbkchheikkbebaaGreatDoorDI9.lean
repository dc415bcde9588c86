import Derived.WalkKit
import Derived.WalkSpells
import Derived.WalkLawsBesides
import Derived.Deep.QuietTactic
import Derived.BigQuiet
import Derived.Lib.Hide
import Derived.Shelf.Abstract
import Derived.Deep.RegionWith
import Derived.Laws.AppendOwnNone
import Derived.Lib.AppendZerosOnto
import Derived.Lib.SliceRun
import Derived.Lib.SlicesCompact
import Derived.Shelf.SlSortCmp.NoneTotal
import Derived.Maps.OwnOps
import Derived.Maps.OwnSet
import Derived.Maps.Views
import Derived.Deep.MidRow
import Derived.Deep.RegionHeld3
import Derived.Deep.AppendLies
import Derived.Deep.RegionLaw
import Derived.IntWalk
import Derived.StillTailTactics
import Derived.ProofKit
import Derived.OpenShut
import Derived.SizedLaws
import Derived.Lib.SmallJoins
import Derived.Deep.Slices
import Derived.Deep.Fields
import Derived.Deep.Strs
import Derived.Carry
import Derived.Deep.DeepCutAuto
import Derived.BigRegion
import Derived.ChangeAlike
import Derived.Deep.LoopGhost
import Derived.Lib.ItoaNum
import Derived.RegionTactic
import Derived.Shelf.SlSortCmp.PdqK
import Derived.Sort.LotA
import Derived.Sort.LotD2
import Derived.Lib.BitFns
import Derived.Deep.CutBlock
import Derived.Laws.IdiomStrings
import Derived.Test.YtbkchheikkbebaaGreatDoorDI4
import Derived.Test.YtbkchheikkbebaaGreatDoorDI5
import Derived.Test.YtbkchheikkbebaaGreatDoorDI6
import Derived.Test.YtbkchheikkbebaaGreatDoorDI7
import Derived.Test.YtbkchheikkbebaaGreatDoorDI8
/-
  Walks: the lesser and the greater of two fractions, of rational and of the reference. Printed by gen_EA1.py.
-/
namespace Go.Proofs.YtbkchheikkbebaaGreatDoor
open Go.RowKit

theorem sub_le0 (a b : Rat) : sgnR (a - b) ≤ 0 ↔ a ≤ b := by
  rw [sgn_le]; grind
theorem sub_ge0 (a b : Rat) : 0 ≤ sgnR (a - b) ↔ b ≤ a := by
  rw [sgn_ge]; grind
theorem ratOf_self (r : Rw) : mkRat (sg (partsR r).1 (nv (partsR r).2.1)) (nv (partsR r).2.2) = ratOf r := rfl
set_option maxRecDepth 100000 in
set_option maxHeartbeats 4000000 in
theorem rsame_any (v : Value) (r : Rw) (w : World) (hv : RatAt w v r) (hs : r.Short 274877906944) : Calls Tryz.prog 183 #[v] w fun e w' => (∃ v', e = .returned v' ∧ RatAt w' v' (canR (ratOf r))) ∧ Kept w w' := by
  have HPA := Lib.hid (fun W (hk : Kept w W) => rparts_any v r W (hv.kept hk) hs)
  have hok := partsR_ok hv.ok
  have hsh := parts_short hs (by omega)
  obtain ⟨R, hR⟩ : ∃ R, R = canR (ratOf r) := ⟨_, rfl⟩
  have HFO : Hid (∀ W u1 u2, WdsAt W u1 (partsR r).2.1 → WdsAt W u2 (partsR r).2.2 → Calls Tryz.prog 120 #[.bool (partsR r).1, u1, u2] W fun e w' => (∃ v, e = .returned v ∧ RatAt w' v R) ∧ Kept W w') := Lib.hid fun W u1 u2 k1 k2 => by
    have h := rform_any (partsR r).1 u1 u2 _ _ W k1 k2 hsh.1 hsh.2 hok.2.2.1
    rw [form_can _ _ _ hok.2.2.1, ratOf_self, ← hR] at h
    exact h
  rw [← hR]
  obtain ⟨u1, u2, rfl, h1, h2⟩ := hv
  obtain ⟨a1, c1, rfl⟩ := h1.shape
  obtain ⟨a2, c2, rfl⟩ := h2.shape
  obtain ⟨w2, hw2⟩ : ∃ w2, w2 = (w.alloc (.cells #[.bool r.neg, .slice a1 r.num.length c1, .slice a2 r.den.length c2] 39)).alloc (.cells #[.bool false, .slice none 0 0, .slice none 0 0] 39) := ⟨_, rfl⟩
  have HM := Lib.hid (res_made w (.cells #[.bool r.neg, .slice a1 r.num.length c1, .slice a2 r.den.length c2] 39))
  rw [← hw2] at HM
  have HW2 := Lib.hid hw2
  generalize (partsR r).1 = s at *
  generalize (partsR r).2.1 = N at *
  generalize (partsR r).2.2 = D at *
  generalize r.num.length = n1 at *
  generalize r.den.length = n2 at *
  generalize r.neg = neg at *
  clear hok hsh hR h1 h2 hs hw2
  go_enter Tryz.func183, Tryz.ntmps183
  go_wp2_with fail
  rw [← HW2.out]
  refine (HPA.out _ HM.out.2.2).mono ?_
  rintro e w3 ⟨⟨u3, u4, rfl, hu3, hu4⟩, hk3⟩
  have H3 := Lib.hid hu3
  have H4 := Lib.hid hu4
  have HR3 := Lib.hid (HM.out.1.kept hk3)
  have HF3 := Lib.hid (HM.out.2.1.kept hk3)
  have HK3 := Lib.hid (HM.out.2.2.trans hk3)
  clear hu3 hu4 hk3
  go_wp2_with fail
  refine (HFO.out _ _ _ H3.out H4.out).mono ?_
  rintro e w4 ⟨⟨v4, rfl, hv4⟩, hk4⟩
  have HV4 := Lib.hid hv4
  have hr4 := HR3.out.kept hk4
  have HR4 := Lib.hid hr4
  have HF4 := Lib.hid (HF3.out.kept hk4)
  have HK4 := Lib.hid (HK3.out.trans hk4)
  obtain ⟨u5, u6, rfl, k5, k6⟩ := hv4
  obtain ⟨a5, c5, rfl⟩ := k5.shape
  obtain ⟨a6, c6, rfl⟩ := k6.shape
  obtain ⟨y0, y1, y2, hra⟩ := rat_stored hr4 HF4.out k5 k6
  have g0 := hr4.cell (i := 0) (by simp)
  have g1 := hr4.cell (i := 1) (by simp)
  have g2 := hr4.cell (i := 2) (by simp)
  have f0 := hr4.free 0
  have f1 := hr4.free 1
  have f2 := hr4.free 2
  have HRA := Lib.hid hra
  have Y0 := Lib.hid y0
  have Y1 := Lib.hid y1
  have Y2 := Lib.hid y2
  clear hra y0 y1 y2 k5 k6 hr4 hk4
  generalize R.num.length = n5 at *
  generalize R.den.length = n6 at *
  go_wp2
  refine bodyPost_ret (v := .agg #[.bool R.neg, .slice a5 n5 c5, .slice a6 n6 c6]) ?_ rfl ⟨⟨_, rfl, HRA.out⟩, ?_⟩
  · simp [results, Tryz.results183, go_sem, Y0.out, Y1.out, Y2.out]
  · exact ((HK4.out.store (by omega) _ _).store (by omega) _ _).store (by omega) _ _
set_option maxRecDepth 100000 in
set_option maxHeartbeats 4000000 in
theorem rmin_any (va vb : Value) (r s : Rw) (w : World) (ha : RatAt w va r) (hb : RatAt w vb s) (hr : r.Short 68719476736) (hs : s.Short 68719476736) : Calls Tryz.prog 111 #[va, vb] w fun e w' => (∃ v', e = .returned v' ∧ RatAt w' v' (canR (minQ (ratOf r) (ratOf s)))) ∧ Kept w w' := by
  have HCM := Lib.hid (fun W (hk : Kept w W) => rcmp_any va vb r s W (ha.kept hk) (hb.kept hk) hr hs)
  have HSA := Lib.hid (fun W (hk : Kept w W) => rsame_any va r W (ha.kept hk) ⟨Nat.le_trans hr.1 (by omega), Nat.le_trans hr.2 (by omega)⟩)
  have HSB := Lib.hid (fun W (hk : Kept w W) => rsame_any vb s W (hb.kept hk) ⟨Nat.le_trans hs.1 (by omega), Nat.le_trans hs.2 (by omega)⟩)
  obtain ⟨R, hR⟩ : ∃ R, R = canR (minQ (ratOf r) (ratOf s)) := ⟨_, rfl⟩
  rw [← hR]
  have HRR := Lib.hid hR
  obtain ⟨S, hS⟩ : ∃ S, S = sgnR (ratOf r - ratOf s) := ⟨_, rfl⟩
  rw [← hS] at HCM
  have HSS := Lib.hid hS
  obtain ⟨u1, u2, rfl, h1, h2⟩ := ha
  obtain ⟨u3, u4, rfl, h3, h4⟩ := hb
  obtain ⟨a1, c1, rfl⟩ := h1.shape
  obtain ⟨a2, c2, rfl⟩ := h2.shape
  obtain ⟨a3, c3, rfl⟩ := h3.shape
  obtain ⟨a4, c4, rfl⟩ := h4.shape
  generalize r.num.length = n1 at *
  generalize r.den.length = n2 at *
  generalize s.num.length = n3 at *
  generalize s.den.length = n4 at *
  generalize r.neg = neg1 at *
  generalize s.neg = neg2 at *
  obtain ⟨w2, hw2⟩ : ∃ w2, w2 = ((w.alloc (.cells #[.bool neg1, .slice a1 n1 c1, .slice a2 n2 c2] 39)).alloc (.cells #[.bool neg2, .slice a3 n3 c3, .slice a4 n4 c4] 39)).alloc (.cells #[.bool false, .slice none 0 0, .slice none 0 0] 39) := ⟨_, rfl⟩
  have HM := Lib.hid (res_made2 w (.cells #[.bool neg1, .slice a1 n1 c1, .slice a2 n2 c2] 39) (.cells #[.bool neg2, .slice a3 n3 c3, .slice a4 n4 c4] 39))
  rw [← hw2] at HM
  have ha2 := RowAt.made w #[.bool neg1, .slice a1 n1 c1, .slice a2 n2 c2] 39
  have HA2 : Hid (RowAt w2 w.heap.size 39 [.bool neg1, .slice a1 n1 c1, .slice a2 n2 c2]) := Lib.hid (by rw [hw2]; exact ha2.kept (((Kept.refl _).alloc _).alloc _))
  have hb2 := RowAt.made (w.alloc (.cells #[.bool neg1, .slice a1 n1 c1, .slice a2 n2 c2] 39)) #[.bool neg2, .slice a3 n3 c3, .slice a4 n4 c4] 39
  simp only [World.size_alloc] at hb2
  have HB2 : Hid (RowAt w2 (w.heap.size + 1) 39 [.bool neg2, .slice a3 n3 c3, .slice a4 n4 c4]) := Lib.hid (by rw [hw2]; exact hb2.kept ((Kept.refl _).alloc _))
  have HW2 := Lib.hid hw2
  have p0 := HA2.out.cell (i := 0) (by simp)
  have p1 := HA2.out.cell (i := 1) (by simp)
  have p2 := HA2.out.cell (i := 2) (by simp)
  have g0 := HB2.out.cell (i := 0) (by simp)
  have g1 := HB2.out.cell (i := 1) (by simp)
  have g2 := HB2.out.cell (i := 2) (by simp)
  simp only [List.getElem_cons_succ, List.getElem_cons_zero] at p0 p1 p2 g0 g1 g2
  clear hR hS h1 h2 h3 h4 hr hs hw2 ha2 hb2
  by_cases hc : S ≤ 0
  · have HE : Hid (R = canR (ratOf r)) := Lib.hid (by rw [HRR.out, minQ, if_pos ((sub_le0 _ _).1 (by rw [← HSS.out]; exact hc))])
    have HSA2 : Hid (∀ W, Kept w W → Calls Tryz.prog 183 #[.agg #[.bool neg1, .slice a1 n1 c1, .slice a2 n2 c2]] W fun e w' => (∃ v', e = .returned v' ∧ RatAt w' v' R) ∧ Kept W w') := Lib.hid (by rw [HE.out]; exact HSA.out)
    have dc : decide (S ≤ 0) = true := by simp; omega
    go_enter Tryz.func111, Tryz.ntmps111
    go_wp2_with fail
    rw [← HW2.out]
    refine (HCM.out _ HM.out.2.2).mono ?_
    rintro e w3 ⟨rfl, hk3⟩
    have x0 := hk3.cell p0
    have x1 := hk3.cell p1
    have x2 := hk3.cell p2
    have HR3 := Lib.hid (HM.out.1.kept hk3)
    have HF3 := Lib.hid (HM.out.2.1.kept hk3)
    have HK3 := Lib.hid (HM.out.2.2.trans hk3)
    clear hk3
    go_wp2_with fail
    refine (HSA2.out _ HK3.out).mono ?_
    rintro e w4 ⟨⟨v4, rfl, hv4⟩, hk4⟩
    have hr4 := HR3.out.kept hk4
    have HF4 := Lib.hid (HF3.out.kept hk4)
    have HK4 := Lib.hid (HK3.out.trans hk4)
    obtain ⟨u5, u6, rfl, k5, k6⟩ := hv4
    obtain ⟨a5, c5, rfl⟩ := k5.shape
    obtain ⟨a6, c6, rfl⟩ := k6.shape
    obtain ⟨y0, y1, y2, hra⟩ := rat_stored hr4 HF4.out k5 k6
    have g0 := hr4.cell (i := 0) (by simp)
    have g1 := hr4.cell (i := 1) (by simp)
    have g2 := hr4.cell (i := 2) (by simp)
    have f0 := hr4.free 0
    have f1 := hr4.free 1
    have f2 := hr4.free 2
    have HRA := Lib.hid hra
    have Y0 := Lib.hid y0
    have Y1 := Lib.hid y1
    have Y2 := Lib.hid y2
    clear hra y0 y1 y2 k5 k6 hr4 hk4
    generalize R.num.length = n5 at *
    generalize R.den.length = n6 at *
    go_wp2
    refine bodyPost_ret (v := .agg #[.bool R.neg, .slice a5 n5 c5, .slice a6 n6 c6]) ?_ rfl ⟨⟨_, rfl, HRA.out⟩, ?_⟩
    · simp [results, Tryz.results111, go_sem, Y0.out, Y1.out, Y2.out]
    · exact ((HK4.out.store (by omega) _ _).store (by omega) _ _).store (by omega) _ _
  · have HE : Hid (R = canR (ratOf s)) := Lib.hid (by rw [HRR.out, minQ, if_neg (fun h => hc (by have := (sub_le0 _ _).2 h; rw [← HSS.out] at this; exact this))])
    have HSA2 : Hid (∀ W, Kept w W → Calls Tryz.prog 183 #[.agg #[.bool neg2, .slice a3 n3 c3, .slice a4 n4 c4]] W fun e w' => (∃ v', e = .returned v' ∧ RatAt w' v' R) ∧ Kept W w') := Lib.hid (by rw [HE.out]; exact HSB.out)
    have dc : decide (S ≤ 0) = false := by simp; omega
    go_enter Tryz.func111, Tryz.ntmps111
    go_wp2_with fail
    rw [← HW2.out]
    refine (HCM.out _ HM.out.2.2).mono ?_
    rintro e w3 ⟨rfl, hk3⟩
    have x0 := hk3.cell g0
    have x1 := hk3.cell g1
    have x2 := hk3.cell g2
    have HR3 := Lib.hid (HM.out.1.kept hk3)
    have HF3 := Lib.hid (HM.out.2.1.kept hk3)
    have HK3 := Lib.hid (HM.out.2.2.trans hk3)
    clear hk3
    go_wp2_with fail
    refine (HSA2.out _ HK3.out).mono ?_
    rintro e w4 ⟨⟨v4, rfl, hv4⟩, hk4⟩
    have hr4 := HR3.out.kept hk4
    have HF4 := Lib.hid (HF3.out.kept hk4)
    have HK4 := Lib.hid (HK3.out.trans hk4)
    obtain ⟨u5, u6, rfl, k5, k6⟩ := hv4
    obtain ⟨a5, c5, rfl⟩ := k5.shape
    obtain ⟨a6, c6, rfl⟩ := k6.shape
    obtain ⟨y0, y1, y2, hra⟩ := rat_stored hr4 HF4.out k5 k6
    have g0 := hr4.cell (i := 0) (by simp)
    have g1 := hr4.cell (i := 1) (by simp)
    have g2 := hr4.cell (i := 2) (by simp)
    have f0 := hr4.free 0
    have f1 := hr4.free 1
    have f2 := hr4.free 2
    have HRA := Lib.hid hra
    have Y0 := Lib.hid y0
    have Y1 := Lib.hid y1
    have Y2 := Lib.hid y2
    clear hra y0 y1 y2 k5 k6 hr4 hk4
    generalize R.num.length = n5 at *
    generalize R.den.length = n6 at *
    go_wp2
    refine bodyPost_ret (v := .agg #[.bool R.neg, .slice a5 n5 c5, .slice a6 n6 c6]) ?_ rfl ⟨⟨_, rfl, HRA.out⟩, ?_⟩
    · simp [results, Tryz.results111, go_sem, Y0.out, Y1.out, Y2.out]
    · exact ((HK4.out.store (by omega) _ _).store (by omega) _ _).store (by omega) _ _
set_option maxRecDepth 100000 in
set_option maxHeartbeats 4000000 in
theorem rmax_any (va vb : Value) (r s : Rw) (w : World) (ha : RatAt w va r) (hb : RatAt w vb s) (hr : r.Short 68719476736) (hs : s.Short 68719476736) : Calls Tryz.prog 110 #[va, vb] w fun e w' => (∃ v', e = .returned v' ∧ RatAt w' v' (canR (maxQ (ratOf r) (ratOf s)))) ∧ Kept w w' := by
  have HCM := Lib.hid (fun W (hk : Kept w W) => rcmp_any va vb r s W (ha.kept hk) (hb.kept hk) hr hs)
  have HSA := Lib.hid (fun W (hk : Kept w W) => rsame_any va r W (ha.kept hk) ⟨Nat.le_trans hr.1 (by omega), Nat.le_trans hr.2 (by omega)⟩)
  have HSB := Lib.hid (fun W (hk : Kept w W) => rsame_any vb s W (hb.kept hk) ⟨Nat.le_trans hs.1 (by omega), Nat.le_trans hs.2 (by omega)⟩)
  obtain ⟨R, hR⟩ : ∃ R, R = canR (maxQ (ratOf r) (ratOf s)) := ⟨_, rfl⟩
  rw [← hR]
  have HRR := Lib.hid hR
  obtain ⟨S, hS⟩ : ∃ S, S = sgnR (ratOf r - ratOf s) := ⟨_, rfl⟩
  rw [← hS] at HCM
  have HSS := Lib.hid hS
  obtain ⟨u1, u2, rfl, h1, h2⟩ := ha
  obtain ⟨u3, u4, rfl, h3, h4⟩ := hb
  obtain ⟨a1, c1, rfl⟩ := h1.shape
  obtain ⟨a2, c2, rfl⟩ := h2.shape
  obtain ⟨a3, c3, rfl⟩ := h3.shape
  obtain ⟨a4, c4, rfl⟩ := h4.shape
  generalize r.num.length = n1 at *
  generalize r.den.length = n2 at *
  generalize s.num.length = n3 at *
  generalize s.den.length = n4 at *
  generalize r.neg = neg1 at *
  generalize s.neg = neg2 at *
  obtain ⟨w2, hw2⟩ : ∃ w2, w2 = ((w.alloc (.cells #[.bool neg1, .slice a1 n1 c1, .slice a2 n2 c2] 39)).alloc (.cells #[.bool neg2, .slice a3 n3 c3, .slice a4 n4 c4] 39)).alloc (.cells #[.bool false, .slice none 0 0, .slice none 0 0] 39) := ⟨_, rfl⟩
  have HM := Lib.hid (res_made2 w (.cells #[.bool neg1, .slice a1 n1 c1, .slice a2 n2 c2] 39) (.cells #[.bool neg2, .slice a3 n3 c3, .slice a4 n4 c4] 39))
  rw [← hw2] at HM
  have ha2 := RowAt.made w #[.bool neg1, .slice a1 n1 c1, .slice a2 n2 c2] 39
  have HA2 : Hid (RowAt w2 w.heap.size 39 [.bool neg1, .slice a1 n1 c1, .slice a2 n2 c2]) := Lib.hid (by rw [hw2]; exact ha2.kept (((Kept.refl _).alloc _).alloc _))
  have hb2 := RowAt.made (w.alloc (.cells #[.bool neg1, .slice a1 n1 c1, .slice a2 n2 c2] 39)) #[.bool neg2, .slice a3 n3 c3, .slice a4 n4 c4] 39
  simp only [World.size_alloc] at hb2
  have HB2 : Hid (RowAt w2 (w.heap.size + 1) 39 [.bool neg2, .slice a3 n3 c3, .slice a4 n4 c4]) := Lib.hid (by rw [hw2]; exact hb2.kept ((Kept.refl _).alloc _))
  have HW2 := Lib.hid hw2
  have p0 := HA2.out.cell (i := 0) (by simp)
  have p1 := HA2.out.cell (i := 1) (by simp)
  have p2 := HA2.out.cell (i := 2) (by simp)
  have g0 := HB2.out.cell (i := 0) (by simp)
  have g1 := HB2.out.cell (i := 1) (by simp)
  have g2 := HB2.out.cell (i := 2) (by simp)
  simp only [List.getElem_cons_succ, List.getElem_cons_zero] at p0 p1 p2 g0 g1 g2
  clear hR hS h1 h2 h3 h4 hr hs hw2 ha2 hb2
  by_cases hc : 0 ≤ S
  · have HE : Hid (R = canR (ratOf r)) := Lib.hid (by rw [HRR.out, maxQ, if_pos ((sub_ge0 _ _).1 (by rw [← HSS.out]; exact hc))])
    have HSA2 : Hid (∀ W, Kept w W → Calls Tryz.prog 183 #[.agg #[.bool neg1, .slice a1 n1 c1, .slice a2 n2 c2]] W fun e w' => (∃ v', e = .returned v' ∧ RatAt w' v' R) ∧ Kept W w') := Lib.hid (by rw [HE.out]; exact HSA.out)
    have dc : decide (S ≥ 0) = true := by simp; omega
    go_enter Tryz.func110, Tryz.ntmps110
    go_wp2_with fail
    rw [← HW2.out]
    refine (HCM.out _ HM.out.2.2).mono ?_
    rintro e w3 ⟨rfl, hk3⟩
    have x0 := hk3.cell p0
    have x1 := hk3.cell p1
    have x2 := hk3.cell p2
    have HR3 := Lib.hid (HM.out.1.kept hk3)
    have HF3 := Lib.hid (HM.out.2.1.kept hk3)
    have HK3 := Lib.hid (HM.out.2.2.trans hk3)
    clear hk3
    go_wp2_with fail
    refine (HSA2.out _ HK3.out).mono ?_
    rintro e w4 ⟨⟨v4, rfl, hv4⟩, hk4⟩
    have hr4 := HR3.out.kept hk4
    have HF4 := Lib.hid (HF3.out.kept hk4)
    have HK4 := Lib.hid (HK3.out.trans hk4)
    obtain ⟨u5, u6, rfl, k5, k6⟩ := hv4
    obtain ⟨a5, c5, rfl⟩ := k5.shape
    obtain ⟨a6, c6, rfl⟩ := k6.shape
    obtain ⟨y0, y1, y2, hra⟩ := rat_stored hr4 HF4.out k5 k6
    have g0 := hr4.cell (i := 0) (by simp)
    have g1 := hr4.cell (i := 1) (by simp)
    have g2 := hr4.cell (i := 2) (by simp)
    have f0 := hr4.free 0
    have f1 := hr4.free 1
    have f2 := hr4.free 2
    have HRA := Lib.hid hra
    have Y0 := Lib.hid y0
    have Y1 := Lib.hid y1
    have Y2 := Lib.hid y2
    clear hra y0 y1 y2 k5 k6 hr4 hk4
    generalize R.num.length = n5 at *
    generalize R.den.length = n6 at *
    go_wp2
    refine bodyPost_ret (v := .agg #[.bool R.neg, .slice a5 n5 c5, .slice a6 n6 c6]) ?_ rfl ⟨⟨_, rfl, HRA.out⟩, ?_⟩
    · simp [results, Tryz.results110, go_sem, Y0.out, Y1.out, Y2.out]
    · exact ((HK4.out.store (by omega) _ _).store (by omega) _ _).store (by omega) _ _
  · have HE : Hid (R = canR (ratOf s)) := Lib.hid (by rw [HRR.out, maxQ, if_neg (fun h => hc (by have := (sub_ge0 _ _).2 h; rw [← HSS.out] at this; exact this))])
    have HSA2 : Hid (∀ W, Kept w W → Calls Tryz.prog 183 #[.agg #[.bool neg2, .slice a3 n3 c3, .slice a4 n4 c4]] W fun e w' => (∃ v', e = .returned v' ∧ RatAt w' v' R) ∧ Kept W w') := Lib.hid (by rw [HE.out]; exact HSB.out)
    have dc : decide (S ≥ 0) = false := by simp; omega
    go_enter Tryz.func110, Tryz.ntmps110
    go_wp2_with fail
    rw [← HW2.out]
    refine (HCM.out _ HM.out.2.2).mono ?_
    rintro e w3 ⟨rfl, hk3⟩
    have x0 := hk3.cell g0
    have x1 := hk3.cell g1
    have x2 := hk3.cell g2
    have HR3 := Lib.hid (HM.out.1.kept hk3)
    have HF3 := Lib.hid (HM.out.2.1.kept hk3)
    have HK3 := Lib.hid (HM.out.2.2.trans hk3)
    clear hk3
    go_wp2_with fail
    refine (HSA2.out _ HK3.out).mono ?_
    rintro e w4 ⟨⟨v4, rfl, hv4⟩, hk4⟩
    have hr4 := HR3.out.kept hk4
    have HF4 := Lib.hid (HF3.out.kept hk4)
    have HK4 := Lib.hid (HK3.out.trans hk4)
    obtain ⟨u5, u6, rfl, k5, k6⟩ := hv4
    obtain ⟨a5, c5, rfl⟩ := k5.shape
    obtain ⟨a6, c6, rfl⟩ := k6.shape
    obtain ⟨y0, y1, y2, hra⟩ := rat_stored hr4 HF4.out k5 k6
    have g0 := hr4.cell (i := 0) (by simp)
    have g1 := hr4.cell (i := 1) (by simp)
    have g2 := hr4.cell (i := 2) (by simp)
    have f0 := hr4.free 0
    have f1 := hr4.free 1
    have f2 := hr4.free 2
    have HRA := Lib.hid hra
    have Y0 := Lib.hid y0
    have Y1 := Lib.hid y1
    have Y2 := Lib.hid y2
    clear hra y0 y1 y2 k5 k6 hr4 hk4
    generalize R.num.length = n5 at *
    generalize R.den.length = n6 at *
    go_wp2
    refine bodyPost_ret (v := .agg #[.bool R.neg, .slice a5 n5 c5, .slice a6 n6 c6]) ?_ rfl ⟨⟨_, rfl, HRA.out⟩, ?_⟩
    · simp [results, Tryz.results110, go_sem, Y0.out, Y1.out, Y2.out]
    · exact ((HK4.out.store (by omega) _ _).store (by omega) _ _).store (by omega) _ _
set_option maxRecDepth 100000 in
set_option maxHeartbeats 4000000 in
theorem refmin_any (va vb : Value) (r s : Rw) (w : World) (ha : RatAt w va r) (hb : RatAt w vb s) (hr : r.Short 17179869184) (hs : s.Short 17179869184) : Calls Tryz.prog 115 #[va, vb] w fun e w' => (∃ v', e = .returned v' ∧ RatAt w' v' (canR (minQ (ratOf r) (ratOf s)))) ∧ Kept w w' := by
  have HCM := Lib.hid (fun W (hk : Kept w W) => refcmp02_any va vb r s W (ha.kept hk) (hb.kept hk) ⟨Nat.le_trans hr.1 (by omega), Nat.le_trans hr.2 (by omega)⟩ ⟨Nat.le_trans hs.1 (by omega), Nat.le_trans hs.2 (by omega)⟩)
  have hz0 : (⟨false, [], []⟩ : Rw).Short 17179869184 := ⟨Nat.zero_le _, Nat.zero_le _⟩
  have HSA : Hid (∀ W, Kept w W → Calls Tryz.prog 91 #[va, .agg #[.bool false, .slice none 0 0, .slice none 0 0]] W fun e w' => (∃ v', e = .returned v' ∧ RatAt w' v' (canR (ratOf r))) ∧ Kept W w') := Lib.hid fun W hk => by
    have h := refadd02_any va _ r _ W (ha.kept hk) (RatAt.zero W) ⟨Nat.le_trans hr.1 (by omega), Nat.le_trans hr.2 (by omega)⟩ ⟨Nat.le_trans hz0.1 (by omega), Nat.le_trans hz0.2 (by omega)⟩
    rw [show ratOf ⟨false, [], []⟩ = 0 from rfl, Rat.add_zero] at h
    exact h
  have HSB : Hid (∀ W, Kept w W → Calls Tryz.prog 91 #[vb, .agg #[.bool false, .slice none 0 0, .slice none 0 0]] W fun e w' => (∃ v', e = .returned v' ∧ RatAt w' v' (canR (ratOf s))) ∧ Kept W w') := Lib.hid fun W hk => by
    have h := refadd02_any vb _ s _ W (hb.kept hk) (RatAt.zero W) ⟨Nat.le_trans hs.1 (by omega), Nat.le_trans hs.2 (by omega)⟩ ⟨Nat.le_trans hz0.1 (by omega), Nat.le_trans hz0.2 (by omega)⟩
    rw [show ratOf ⟨false, [], []⟩ = 0 from rfl, Rat.add_zero] at h
    exact h
  obtain ⟨R, hR⟩ : ∃ R, R = canR (minQ (ratOf r) (ratOf s)) := ⟨_, rfl⟩
  rw [← hR]
  have HRR := Lib.hid hR
  obtain ⟨S, hS⟩ : ∃ S, S = sgnR (ratOf r - ratOf s) := ⟨_, rfl⟩
  rw [← hS] at HCM
  have HSS := Lib.hid hS
  obtain ⟨u1, u2, rfl, h1, h2⟩ := ha
  obtain ⟨u3, u4, rfl, h3, h4⟩ := hb
  obtain ⟨a1, c1, rfl⟩ := h1.shape
  obtain ⟨a2, c2, rfl⟩ := h2.shape
  obtain ⟨a3, c3, rfl⟩ := h3.shape
  obtain ⟨a4, c4, rfl⟩ := h4.shape
  generalize r.num.length = n1 at *
  generalize r.den.length = n2 at *
  generalize s.num.length = n3 at *
  generalize s.den.length = n4 at *
  generalize r.neg = neg1 at *
  generalize s.neg = neg2 at *
  obtain ⟨w2, hw2⟩ : ∃ w2, w2 = ((w.alloc (.cells #[.bool neg1, .slice a1 n1 c1, .slice a2 n2 c2] 39)).alloc (.cells #[.bool neg2, .slice a3 n3 c3, .slice a4 n4 c4] 39)).alloc (.cells #[.bool false, .slice none 0 0, .slice none 0 0] 39) := ⟨_, rfl⟩
  have HM := Lib.hid (res_made2 w (.cells #[.bool neg1, .slice a1 n1 c1, .slice a2 n2 c2] 39) (.cells #[.bool neg2, .slice a3 n3 c3, .slice a4 n4 c4] 39))
  rw [← hw2] at HM
  have ha2 := RowAt.made w #[.bool neg1, .slice a1 n1 c1, .slice a2 n2 c2] 39
  have HA2 : Hid (RowAt w2 w.heap.size 39 [.bool neg1, .slice a1 n1 c1, .slice a2 n2 c2]) := Lib.hid (by rw [hw2]; exact ha2.kept (((Kept.refl _).alloc _).alloc _))
  have hb2 := RowAt.made (w.alloc (.cells #[.bool neg1, .slice a1 n1 c1, .slice a2 n2 c2] 39)) #[.bool neg2, .slice a3 n3 c3, .slice a4 n4 c4] 39
  simp only [World.size_alloc] at hb2
  have HB2 : Hid (RowAt w2 (w.heap.size + 1) 39 [.bool neg2, .slice a3 n3 c3, .slice a4 n4 c4]) := Lib.hid (by rw [hw2]; exact hb2.kept ((Kept.refl _).alloc _))
  have HW2 := Lib.hid hw2
  have p0 := HA2.out.cell (i := 0) (by simp)
  have p1 := HA2.out.cell (i := 1) (by simp)
  have p2 := HA2.out.cell (i := 2) (by simp)
  have g0 := HB2.out.cell (i := 0) (by simp)
  have g1 := HB2.out.cell (i := 1) (by simp)
  have g2 := HB2.out.cell (i := 2) (by simp)
  simp only [List.getElem_cons_succ, List.getElem_cons_zero] at p0 p1 p2 g0 g1 g2
  clear hR h1 h2 h3 h4 hr hs hw2 ha2 hb2 hS hz0
  by_cases hc : 0 < S
  · have HE : Hid (R = canR (ratOf s)) := Lib.hid (by rw [HRR.out, minQ, if_neg (fun h => by have := (sub_le0 _ _).2 h; rw [← HSS.out] at this; omega)])
    have HSA2 : Hid (∀ W, Kept w W → Calls Tryz.prog 91 #[.agg #[.bool neg2, .slice a3 n3 c3, .slice a4 n4 c4], .agg #[.bool false, .slice none 0 0, .slice none 0 0]] W fun e w' => (∃ v', e = .returned v' ∧ RatAt w' v' R) ∧ Kept W w') := Lib.hid (by rw [HE.out]; exact HSB.out)
    have dc : decide (S > 0) = true := by simp; omega
    go_enter Tryz.func115, Tryz.ntmps115
    go_wp2_with fail
    rw [← HW2.out]
    refine (HCM.out _ HM.out.2.2).mono ?_
    rintro e w3 ⟨rfl, hk3⟩
    have x0 := hk3.cell g0
    have x1 := hk3.cell g1
    have x2 := hk3.cell g2
    have hA3 := HA2.out.kept hk3
    have q0 := hk3.cell p0
    have q1 := hk3.cell p1
    have q2 := hk3.cell p2
    have f0 := hA3.free 0
    have f1 := hA3.free 1
    have f2 := hA3.free 2
    have hlt3 := hA3.lt
    have hst := ((hA3.store 0 (.bool neg2)).store 1 (.slice a3 n3 c3)).store 2 (.slice a4 n4 c4)
    simp only [List.set_cons_zero, List.set_cons_succ] at hst
    have y0 := hst.cell (i := 0) (by simp)
    have y1 := hst.cell (i := 1) (by simp)
    have y2 := hst.cell (i := 2) (by simp)
    simp only [List.getElem_cons_succ, List.getElem_cons_zero] at y0 y1 y2
    obtain ⟨w4, hw4⟩ : ∃ w4, w4 = ((w3.setCell ⟨w.heap.size, 0, none⟩ (.bool neg2)).setCell ⟨w.heap.size, 1, none⟩ (.slice a3 n3 c3)).setCell ⟨w.heap.size, 2, none⟩ (.slice a4 n4 c4) := ⟨_, rfl⟩
    have HK3 := Lib.hid (HM.out.2.2.trans hk3)
    have HO := (((OnlyAt.refl w.heap.size w3).store 0 (.bool neg2)).store 1 (.slice a3 n3 c3)).store 2 (.slice a4 n4 c4)
    rw [← hw4] at HO
    have HK4 : Hid (Kept w w4) := Lib.hid (HO.toKept HK3.out (Nat.le_refl _))
    have HR4 : Hid (RowAt w4 (w.heap.size + 1 + 1) 39 [.bool false, .slice none 0 0, .slice none 0 0]) := Lib.hid (HO.row (HM.out.1.kept hk3) (by omega))
    have HF4 : Hid (FixAt w4 (w.heap.size + 1 + 1) [.bool false, .slice none 0 0, .slice none 0 0]) := Lib.hid (by
      obtain ⟨cur, e, h1, h2⟩ := HM.out.2.1.kept hk3
      exact ⟨cur, e, (HO.block _ (HM.out.2.1.kept hk3).lt (by omega)).trans h1, h2⟩)
    have HW4 := Lib.hid hw4
    clear hk3 hst hA3 HO hw4
    go_wp2_with fail
    rw [← HW4.out]
    refine (HSA2.out _ HK4.out).mono ?_
    rintro e w5 ⟨⟨v5, rfl, hv5⟩, hk5⟩
    have hr5 := HR4.out.kept hk5
    have HF5 := Lib.hid (HF4.out.kept hk5)
    have HK5 := Lib.hid (HK4.out.trans hk5)
    clear x0 x1 x2 q0 q1 q2 f0 f1 f2 y0 y1 y2
    obtain ⟨u5, u6, rfl, k5, k6⟩ := hv5
    obtain ⟨a5, c5, rfl⟩ := k5.shape
    obtain ⟨a6, c6, rfl⟩ := k6.shape
    obtain ⟨y0, y1, y2, hra⟩ := rat_stored hr5 HF5.out k5 k6
    have g0 := hr5.cell (i := 0) (by simp)
    have g1 := hr5.cell (i := 1) (by simp)
    have g2 := hr5.cell (i := 2) (by simp)
    have f0 := hr5.free 0
    have f1 := hr5.free 1
    have f2 := hr5.free 2
    have HRA := Lib.hid hra
    have Y0 := Lib.hid y0
    have Y1 := Lib.hid y1
    have Y2 := Lib.hid y2
    clear hra y0 y1 y2 k5 k6 hr5 hk5
    generalize R.num.length = n5 at *
    generalize R.den.length = n6 at *
    go_wp2
    refine bodyPost_ret (v := .agg #[.bool R.neg, .slice a5 n5 c5, .slice a6 n6 c6]) ?_ rfl ⟨⟨_, rfl, HRA.out⟩, ?_⟩
    · simp [results, Tryz.results115, go_sem, Y0.out, Y1.out, Y2.out]
    · exact ((HK5.out.store (by omega) _ _).store (by omega) _ _).store (by omega) _ _
  · have HE : Hid (R = canR (ratOf r)) := Lib.hid (by rw [HRR.out, minQ, if_pos ((sub_le0 _ _).1 (by rw [← HSS.out]; omega))])
    have HSA2 : Hid (∀ W, Kept w W → Calls Tryz.prog 91 #[.agg #[.bool neg1, .slice a1 n1 c1, .slice a2 n2 c2], .agg #[.bool false, .slice none 0 0, .slice none 0 0]] W fun e w' => (∃ v', e = .returned v' ∧ RatAt w' v' R) ∧ Kept W w') := Lib.hid (by rw [HE.out]; exact HSA.out)
    have dc : decide (S > 0) = false := by simp; omega
    go_enter Tryz.func115, Tryz.ntmps115
    go_wp2_with fail
    rw [← HW2.out]
    refine (HCM.out _ HM.out.2.2).mono ?_
    rintro e w3 ⟨rfl, hk3⟩
    have x0 := hk3.cell p0
    have x1 := hk3.cell p1
    have x2 := hk3.cell p2
    have HR3 := Lib.hid (HM.out.1.kept hk3)
    have HF3 := Lib.hid (HM.out.2.1.kept hk3)
    have HK3 := Lib.hid (HM.out.2.2.trans hk3)
    clear hk3
    go_wp2_with fail
    refine (HSA2.out _ HK3.out).mono ?_
    rintro e w5 ⟨⟨v5, rfl, hv5⟩, hk5⟩
    have hr5 := HR3.out.kept hk5
    have HF5 := Lib.hid (HF3.out.kept hk5)
    have HK5 := Lib.hid (HK3.out.trans hk5)
    obtain ⟨u5, u6, rfl, k5, k6⟩ := hv5
    obtain ⟨a5, c5, rfl⟩ := k5.shape
    obtain ⟨a6, c6, rfl⟩ := k6.shape
    obtain ⟨y0, y1, y2, hra⟩ := rat_stored hr5 HF5.out k5 k6
    have g0 := hr5.cell (i := 0) (by simp)
    have g1 := hr5.cell (i := 1) (by simp)
    have g2 := hr5.cell (i := 2) (by simp)
    have f0 := hr5.free 0
    have f1 := hr5.free 1
    have f2 := hr5.free 2
    have HRA := Lib.hid hra
    have Y0 := Lib.hid y0
    have Y1 := Lib.hid y1
    have Y2 := Lib.hid y2
    clear hra y0 y1 y2 k5 k6 hr5 hk5
    generalize R.num.length = n5 at *
    generalize R.den.length = n6 at *
    go_wp2
    refine bodyPost_ret (v := .agg #[.bool R.neg, .slice a5 n5 c5, .slice a6 n6 c6]) ?_ rfl ⟨⟨_, rfl, HRA.out⟩, ?_⟩
    · simp [results, Tryz.results115, go_sem, Y0.out, Y1.out, Y2.out]
    · exact ((HK5.out.store (by omega) _ _).store (by omega) _ _).store (by omega) _ _
theorem neg_min (a b : Rat) : - minQ (- a) (- b) = maxQ a b := by
  unfold minQ maxQ
  split
  · rw [if_pos (by grind)]; grind
  · rw [if_neg (by grind)]; grind
set_option maxRecDepth 100000 in
set_option maxHeartbeats 4000000 in
theorem refmax_any (va vb : Value) (r s : Rw) (w : World) (ha : RatAt w va r) (hb : RatAt w vb s) (hr : r.Short 17179869184) (hs : s.Short 17179869184) : Calls Tryz.prog 114 #[va, vb] w fun e w' => (∃ v', e = .returned v' ∧ RatAt w' v' (canR (maxQ (ratOf r) (ratOf s)))) ∧ Kept w w' := by
  have HN1 := Lib.hid (fun W (hk : Kept w W) => refneg_any va r W (ha.kept hk) ⟨Nat.le_trans hr.1 (by omega), Nat.le_trans hr.2 (by omega)⟩)
  have HN2 := Lib.hid (fun W (hk : Kept w W) => refneg_any vb s W (hb.kept hk) ⟨Nat.le_trans hs.1 (by omega), Nat.le_trans hs.2 (by omega)⟩)
  have sh1 := short_neg ha.ok hr (by omega)
  have sh2 := short_neg hb.ok hs (by omega)
  obtain ⟨M, hM⟩ : ∃ M, M = canR (minQ (- ratOf r) (- ratOf s)) := ⟨_, rfl⟩
  have HMI : Hid (∀ W u1 u2, RatAt W u1 (canR (- ratOf r)) → RatAt W u2 (canR (- ratOf s)) → Calls Tryz.prog 115 #[u1, u2] W fun e w' => (∃ v', e = .returned v' ∧ RatAt w' v' M) ∧ Kept W w') := Lib.hid fun W u1 u2 k1 k2 => by
    have h := refmin_any u1 u2 _ _ W k1 k2 sh1 sh2
    rw [ratOf_can, ratOf_can, ← hM] at h
    exact h
  have shM : M.Short 17179869184 := by
    rw [hM]; unfold minQ; split
    · exact sh1
    · exact sh2
  obtain ⟨R, hR⟩ : ∃ R, R = canR (maxQ (ratOf r) (ratOf s)) := ⟨_, rfl⟩
  have HN3 : Hid (∀ W u, RatAt W u M → Calls Tryz.prog 107 #[u] W fun e w' => (∃ v', e = .returned v' ∧ RatAt w' v' R) ∧ Kept W w') := Lib.hid fun W u k => by
    have h := refneg_any u _ W k ⟨Nat.le_trans shM.1 (by omega), Nat.le_trans shM.2 (by omega)⟩
    rw [hM, ratOf_can, neg_min, ← hR] at h
    exact h
  rw [← hR]
  obtain ⟨u1, u2, rfl, h1, h2⟩ := ha
  obtain ⟨u3, u4, rfl, h3, h4⟩ := hb
  obtain ⟨a1, c1, rfl⟩ := h1.shape
  obtain ⟨a2, c2, rfl⟩ := h2.shape
  obtain ⟨a3, c3, rfl⟩ := h3.shape
  obtain ⟨a4, c4, rfl⟩ := h4.shape
  generalize r.num.length = n1 at *
  generalize r.den.length = n2 at *
  generalize s.num.length = n3 at *
  generalize s.den.length = n4 at *
  generalize r.neg = neg1 at *
  generalize s.neg = neg2 at *
  obtain ⟨w2, hw2⟩ : ∃ w2, w2 = ((w.alloc (.cells #[.bool neg1, .slice a1 n1 c1, .slice a2 n2 c2] 39)).alloc (.cells #[.bool neg2, .slice a3 n3 c3, .slice a4 n4 c4] 39)).alloc (.cells #[.bool false, .slice none 0 0, .slice none 0 0] 39) := ⟨_, rfl⟩
  have HM := Lib.hid (res_made2 w (.cells #[.bool neg1, .slice a1 n1 c1, .slice a2 n2 c2] 39) (.cells #[.bool neg2, .slice a3 n3 c3, .slice a4 n4 c4] 39))
  rw [← hw2] at HM
  have ha2 := RowAt.made w #[.bool neg1, .slice a1 n1 c1, .slice a2 n2 c2] 39
  have HA2 : Hid (RowAt w2 w.heap.size 39 [.bool neg1, .slice a1 n1 c1, .slice a2 n2 c2]) := Lib.hid (by rw [hw2]; exact ha2.kept (((Kept.refl _).alloc _).alloc _))
  have hb2 := RowAt.made (w.alloc (.cells #[.bool neg1, .slice a1 n1 c1, .slice a2 n2 c2] 39)) #[.bool neg2, .slice a3 n3 c3, .slice a4 n4 c4] 39
  simp only [World.size_alloc] at hb2
  have HB2 : Hid (RowAt w2 (w.heap.size + 1) 39 [.bool neg2, .slice a3 n3 c3, .slice a4 n4 c4]) := Lib.hid (by rw [hw2]; exact hb2.kept ((Kept.refl _).alloc _))
  have HW2 := Lib.hid hw2
  have p0 := HA2.out.cell (i := 0) (by simp)
  have p1 := HA2.out.cell (i := 1) (by simp)
  have p2 := HA2.out.cell (i := 2) (by simp)
  have g0 := HB2.out.cell (i := 0) (by simp)
  have g1 := HB2.out.cell (i := 1) (by simp)
  have g2 := HB2.out.cell (i := 2) (by simp)
  simp only [List.getElem_cons_succ, List.getElem_cons_zero] at p0 p1 p2 g0 g1 g2
  clear hR h1 h2 h3 h4 hr hs hw2 ha2 hb2 hM sh1 sh2 shM
  go_enter Tryz.func114, Tryz.ntmps114
  go_wp2_with fail
  rw [← HW2.out]
  go_region_with (first
    | (go_at_call 107; (with_reducible refine (HN1.out _ HM.out.2.2.drew).mono ?_); rintro e w3 ⟨⟨v3, rfl, hv3⟩, hk3⟩; have hkd := (Kept.refl w2).drew.trans hk3; have x0 := hkd.cell g0; have x1 := hkd.cell g1; have x2 := hkd.cell g2; have HV3 := Lib.hid hv3; have HKD := Lib.hid (HM.out.2.2.trans hkd); have HR3 := Lib.hid (HM.out.1.kept hkd); have HF3 := Lib.hid (HM.out.2.1.kept hkd); clear hv3 hk3 hkd)
    | (go_at_call 107; (with_reducible refine (HN2.out _ HKD.out).mono ?_); rintro e w4 ⟨⟨v4, rfl, hv4⟩, hk4⟩; have HV4 := Lib.hid hv4; have HV5 := Lib.hid (HV3.out.kept hk4); have HKE := Lib.hid (HKD.out.trans hk4); have HR4 := Lib.hid (HR3.out.kept hk4); have HF4 := Lib.hid (HF3.out.kept hk4); clear hv4 hk4)
    | (go_at_call 115; (with_reducible refine (HMI.out _ _ _ HV5.out HV4.out).mono ?_); rintro e w6 ⟨⟨v6, rfl, hv6⟩, hk6⟩; have HV6 := Lib.hid hv6; have HK6 := Lib.hid (HKE.out.trans hk6); have HR6 := Lib.hid (HR4.out.kept hk6); have HF6 := Lib.hid (HF4.out.kept hk6); clear hv6 hk6)
    | (go_at_call 107; (with_reducible refine (HN3.out _ _ HV6.out).mono ?_); rintro e w7 ⟨⟨v7, rfl, hv7⟩, hk7⟩; have hr7 := HR6.out.kept hk7; have HR7 := Lib.hid hr7; have HF7 := Lib.hid (HF6.out.kept hk7); have HK7 := Lib.hid (HK6.out.trans hk7); obtain ⟨u5, u6, rfl, k5, k6⟩ := hv7; obtain ⟨a5, c5, rfl⟩ := k5.shape; obtain ⟨a6, c6, rfl⟩ := k6.shape; have K5 := Lib.hid k5; have K6 := Lib.hid k6; have z0 := hr7.cell (i := 0) (by simp); have z1 := hr7.cell (i := 1) (by simp); have z2 := hr7.cell (i := 2) (by simp); have f0 := hr7.free 0; have f1 := hr7.free 1; have f2 := hr7.free 2; clear k5 k6 hr7 hk7))
  all_goals
    obtain ⟨y0, y1, y2, hra⟩ := rat_stored HR7.out HF7.out K5.out K6.out
    generalize R.num.length = n7 at *
    generalize R.den.length = n8 at *
    go_wp2
    refine bodyPost_ret (v := .agg #[.bool R.neg, .slice a5 n7 c5, .slice a6 n8 c6]) ?_ rfl ⟨⟨_, rfl, hra⟩, ?_⟩
    · simp [results, Tryz.results114, go_sem, y0, y1, y2]
    · exact ((HK7.out.store (by omega) _ _).store (by omega) _ _).store (by omega) _ _
end Go.Proofs.YtbkchheikkbebaaGreatDoor

/-
  Walks: span.Valid, of, norm.
-/
namespace Go.Proofs.YtbkchheikkbebaaGreatDoor
open Go.RowKit

set_option maxRecDepth 100000 in
set_option maxHeartbeats 4000000 in
theorem svalid_any (v : Value) (a b : Rat) (w : World) (hv : SpanV w v (canR a) (canR b)) (ha : (canR a).Short 200000) (hb : (canR b).Short 200000) (hab : a ≤ b) : Calls Tryz.prog 51 #[v] w fun e w' => e = .returned (.bool true) ∧ Kept w w' := by
  have HVA : Hid (∀ x, (canR x).Short 200000 → ∀ W u, RatAt W u (canR x) → Calls Tryz.prog 117 #[u] W fun e w' => e = .returned (.bool true) ∧ Kept W w') := Lib.hid fun x hx W u hu => by
    have h := ratvalid_any u _ W hu ⟨Nat.le_trans hx.1 (by omega), Nat.le_trans hx.2 (by omega)⟩
    rw [canR_valid] at h
    exact h
  obtain ⟨S, hS⟩ : ∃ S, S = sgnR (a - b) := ⟨_, rfl⟩
  have hS0 : S ≤ 0 := by rw [hS]; exact (sub_le0 a b).2 hab
  have HCM : Hid (∀ W u1 u2, RatAt W u1 (canR a) → RatAt W u2 (canR b) → Calls Tryz.prog 44 #[u1, u2] W fun e w' => e = .returned (.int .i64 S) ∧ Kept W w') := Lib.hid fun W u1 u2 k1 k2 => by
    have h := rcmp_any u1 u2 _ _ W k1 k2 ⟨Nat.le_trans ha.1 (by omega), Nat.le_trans ha.2 (by omega)⟩ ⟨Nat.le_trans hb.1 (by omega), Nat.le_trans hb.2 (by omega)⟩
    rw [ratOf_can, ratOf_can, ← hS] at h
    exact h
  have HV1 := Lib.hid (HVA.out a ha)
  have HV2 := Lib.hid (HVA.out b hb)
  obtain ⟨a1, c1, a2, c2, a3, c3, a4, c4, rfl, h1, h2, h3, h4⟩ := hv.shape
  obtain ⟨w1, hw1⟩ : ∃ w1, w1 = w.alloc (.cells #[.bool (canR a).neg, .slice a1 (canR a).num.length c1, .slice a2 (canR a).den.length c2, .bool (canR b).neg, .slice a3 (canR b).num.length c3, .slice a4 (canR b).den.length c4] 61) := ⟨_, rfl⟩
  have HX1 : Hid (SpnAt w1 w.heap.size (canR a) (canR b)) := Lib.hid (by rw [hw1]; exact SpnAt.made h1 h2 h3 h4)
  have HK1 : Hid (Kept w w1) := Lib.hid (by rw [hw1]; exact (Kept.refl _).alloc _)
  have hk1 := HK1.out
  have y1 := h1.kept hk1
  have y2 := h2.kept hk1
  have y3 := h3.kept hk1
  have y4 := h4.kept hk1
  have HLO : Hid (∀ W, Kept w1 W → RatAt W (.agg #[.bool (canR a).neg, .slice a1 (canR a).num.length c1, .slice a2 (canR a).den.length c2]) (canR a)) := Lib.hid fun W h => ⟨_, _, rfl, y1.kept h, y2.kept h⟩
  have HHI : Hid (∀ W, Kept w1 W → RatAt W (.agg #[.bool (canR b).neg, .slice a3 (canR b).num.length c3, .slice a4 (canR b).den.length c4]) (canR b)) := Lib.hid fun W h => ⟨_, _, rfl, y3.kept h, y4.kept h⟩
  have hr1 : RowAt w1 w.heap.size 61 [.bool (canR a).neg, .slice a1 (canR a).num.length c1, .slice a2 (canR a).den.length c2, .bool (canR b).neg, .slice a3 (canR b).num.length c3, .slice a4 (canR b).den.length c4] := by
    rw [hw1]; exact RowAt.made w #[.bool (canR a).neg, .slice a1 (canR a).num.length c1, .slice a2 (canR a).den.length c2, .bool (canR b).neg, .slice a3 (canR b).num.length c3, .slice a4 (canR b).den.length c4] 61
  have HR1 := Lib.hid hr1
  have x0 := hr1.cell (i := 0) (by simp)
  have x1 := hr1.cell (i := 1) (by simp)
  have x2 := hr1.cell (i := 2) (by simp)
  simp only [List.getElem_cons_succ, List.getElem_cons_zero] at x0 x1 x2
  have HW1 := Lib.hid hw1
  have dS : decide (S ≤ 0) = true := decide_eq_true hS0
  generalize (canR a).neg = e0 at *
  generalize (canR a).num.length = e1 at *
  generalize (canR a).den.length = e2 at *
  generalize (canR b).neg = e3 at *
  generalize (canR b).num.length = e4 at *
  generalize (canR b).den.length = e5 at *
  clear hv ha hb hab hS hw1 h1 h2 h3 h4 y1 y2 y3 y4 hr1 hk1 HVA
  go_enter Tryz.func51, Tryz.ntmps51
  go_wp2_with fail
  rw [← HW1.out]
  refine (HV1.out _ _ (HLO.out _ (Kept.refl _))).mono ?_
  rintro e w2 ⟨rfl, hk2⟩
  have z3 := (HR1.out.kept hk2).cell (i := 3) (by simp)
  have z4 := (HR1.out.kept hk2).cell (i := 4) (by simp)
  have z5 := (HR1.out.kept hk2).cell (i := 5) (by simp)
  simp only [List.getElem_cons_succ, List.getElem_cons_zero] at z3 z4 z5
  have HK2 := Lib.hid hk2
  clear hk2 x0 x1 x2
  go_wp2_with fail
  refine (HV2.out _ _ (HHI.out _ HK2.out)).mono ?_
  rintro e w3 ⟨rfl, hk3⟩
  have hk13 := HK2.out.trans hk3
  have HK3 := Lib.hid hk13
  have q := fun i (hi : i < 6) => (HR1.out.kept hk13).cell (i := i) (by simpa using hi)
  have q0 := q 0 (by omega)
  have q1 := q 1 (by omega)
  have q2 := q 2 (by omega)
  have q3 := q 3 (by omega)
  have q4 := q 4 (by omega)
  have q5 := q 5 (by omega)
  simp only [List.getElem_cons_succ, List.getElem_cons_zero] at q0 q1 q2 q3 q4 q5
  clear hk3 hk13 z3 z4 z5 q
  go_wp2_with fail
  refine (HCM.out _ _ _ (HLO.out _ HK3.out) (HHI.out _ HK3.out)).mono ?_
  rintro e w4 ⟨rfl, hk4⟩
  go_wp2
  go_ret
  exact ⟨by first | rfl | simp [hS0], HK1.out.trans (HK3.out.trans hk4)⟩
set_option maxRecDepth 100000 in
set_option maxHeartbeats 8000000 in
theorem sof_any (g : Nat) (a b : Rat) (w : World) (hv : ArrAt w g 39 [canR a, canR b]) (ha : (canR a).Short 200000) (hb : (canR b).Short 200000) (hab : a ≤ b) : Calls Tryz.prog 194 #[.slice (some ⟨g, 0, none⟩) 2 2] w fun e w' => (∃ v', e = .returned v' ∧ SpanV w' v' (canR a) (canR b)) ∧ Kept w w' := by
  have hsa : (canR a).Short 68719476736 := ⟨Nat.le_trans ha.1 (by omega), Nat.le_trans ha.2 (by omega)⟩
  have hsb : (canR b).Short 68719476736 := ⟨Nat.le_trans hb.1 (by omega), Nat.le_trans hb.2 (by omega)⟩
  have HM : Hid (∀ x, a ≤ x → (canR x).Short 68719476736 → ∀ W u1 u2, RatAt W u1 (canR a) → RatAt W u2 (canR x) → Calls Tryz.prog 111 #[u1, u2] W fun e w' => (∃ v', e = .returned v' ∧ RatAt w' v' (canR a)) ∧ Kept W w') := Lib.hid fun x hx hs W u1 u2 k1 k2 => by
    have h := rmin_any u1 u2 _ _ W k1 k2 hsa hs
    rw [ratOf_can, ratOf_can, minQ, if_pos hx] at h
    exact h
  have HX : Hid (∀ x, a ≤ x → (canR x).Short 68719476736 → ∀ W u1 u2, RatAt W u1 (canR a) → RatAt W u2 (canR x) → Calls Tryz.prog 110 #[u1, u2] W fun e w' => (∃ v', e = .returned v' ∧ RatAt w' v' (canR x)) ∧ Kept W w') := Lib.hid fun x hx hs W u1 u2 k1 k2 => by
    have h := rmax_any u1 u2 _ _ W k1 k2 hsa hs
    have e : maxQ a x = x := by
      unfold maxQ; split
      · exact Rat.le_antisymm hx (by assumption)
      · rfl
    rw [ratOf_can, ratOf_can, e] at h
    exact h
  have HM1 := Lib.hid (HM.out a Rat.le_refl hsa)
  have HX1 := Lib.hid (HX.out a Rat.le_refl hsa)
  have HM2 := Lib.hid (HM.out b hab hsb)
  have HX2 := Lib.hid (HX.out b hab hsb)
  obtain ⟨lo, hlo⟩ : ∃ lo, lo = canR a := ⟨_, rfl⟩
  obtain ⟨hi, hhi⟩ : ∃ hi, hi = canR b := ⟨_, rfl⟩
  rw [← hlo] at HM1 HX1 HM2 HX2 hv ⊢
  rw [← hhi] at HM2 HX2 hv ⊢
  clear ha hb hab hsa hsb HM HX hlo hhi
  have HV := Lib.hid hv
  obtain ⟨w1, hw1⟩ : ∃ w1, w1 = w.alloc (.cells #[.bool false, .slice none 0 0, .slice none 0 0, .bool false, .slice none 0 0, .slice none 0 0] 61) := ⟨_, rfl⟩
  have HS1 : Hid (SpnAt w1 w.heap.size ⟨false, [], []⟩ ⟨false, [], []⟩) := Lib.hid (by rw [hw1]; exact SpnAt.zero w)
  have HK1 : Hid (Kept w w1) := Lib.hid (by rw [hw1]; exact (Kept.refl _).alloc _)
  have HZ1 : Hid (w1.heap.size = w.heap.size + 1) := Lib.hid (by rw [hw1]; simp)
  have HW1 := Lib.hid hw1
  obtain ⟨n1, l1, m1, n2, l2, m2, a1, c1, a2, c2, a3, c3, a4, c4, x0, x1, x2, x3, x4, x5, hgl, HLO, HHI, _⟩ := (HV.out.kept HK1.out).read2
  have HLOK : Hid (∀ W, Kept w1 W → RatAt W (.agg #[.bool n1, .slice a1 l1 c1, .slice a2 m1 c2]) lo) := Lib.hid fun W h => HLO.out.kept h
  have HHIK : Hid (∀ W, Kept w1 W → RatAt W (.agg #[.bool n2, .slice a3 l2 c3, .slice a4 m2 c4]) hi) := Lib.hid fun W h => HHI.out.kept h
  have HX345 := Lib.hid (And.intro x3 (And.intro x4 x5))
  clear hv hw1 x3 x4 x5
  go_enter Tryz.func194, Tryz.ntmps194
  go_upto_region 1 with fail
  go_cut [3] (fun p wx => ∃ G : Nat, p = .pointer (some ⟨G, 0, none⟩) ∧ Hid (w.heap.size < G ∧ SpnAt wx G lo lo ∧ Kept w1 wx))
  case first =>
    rw [← HW1.out]
    go_region_held3 (fun w' => w'.cell? ⟨g, 0, none⟩ = some (.bool n1) ∧ w'.cell? ⟨g, 1, none⟩ = some (.slice a1 l1 c1) ∧ w'.cell? ⟨g, 2, none⟩ = some (.slice a2 m1 c2))
      (first | go_keep | (refine (fun hq : Kept w1 _ => ⟨hq.cell x0, hq.cell x1, hq.cell x2⟩) ?_; repeat (with_reducible first | exact HKF3.out | exact HKF2.out | exact Kept.refl _ | apply Kept.drew | apply Kept.alloc | refine Kept.store ?_ (by omega) _ _)))
      (first
      | (go_at_call 111; (with_reducible refine (HM1.out _ _ _ (HLOK.out _ (by repeat (with_reducible first | exact Kept.refl _ | apply Kept.drew | apply Kept.alloc))) (HLOK.out _ (by repeat (with_reducible first | exact Kept.refl _ | apply Kept.drew | apply Kept.alloc)))).mono ?_); rintro e w2 ⟨⟨v2, rfl, hv2⟩, hk2⟩; have hkf : Kept w1 w2 := (by refine Kept.trans ?_ hk2; repeat (with_reducible first | exact Kept.refl _ | apply Kept.drew | apply Kept.alloc)); have HKF2 := Lib.hid hkf; have hz2 := hkf.size; obtain ⟨s1, s2, s3, s4, s5, s6, s7, rfl⟩ := hv2.parts; have HV2 := Lib.hid hv2; (try have HB2 : Hid (SpnAt w2 w1.heap.size ⟨false, [], []⟩ ⟨false, [], []⟩) := Lib.hid (by with_reducible first | exact SpnAt.kept ((SpnAt.zero w1).kept (Kept.refl _).drew) hk2 | exact SpnAt.kept (SpnAt.zero w1.drew) hk2)); clear hk2 hkf hv2)
      | (go_at_call 110; (with_reducible refine (HX1.out _ _ _ (HLOK.out _ (by repeat (with_reducible first | exact HKF2.out | apply Kept.drew | apply Kept.alloc))) (HLOK.out _ (by repeat (with_reducible first | exact HKF2.out | apply Kept.drew | apply Kept.alloc)))).mono ?_); rintro e w3 ⟨⟨v3, rfl, hv3⟩, hk3⟩; have hkf : Kept w2 w3 := (by refine Kept.trans ?_ hk3; repeat (with_reducible first | exact Kept.refl _ | apply Kept.drew | apply Kept.alloc)); have HKF3 := Lib.hid (HKF2.out.trans hkf); have hz3 := HKF3.out.size; have HV2B := Lib.hid (HV2.out.kept hkf); obtain ⟨r1, r2, r3, r4, r5, r6, r7, rfl⟩ := hv3.parts; have HV3 := Lib.hid hv3; (try have HB3 := Lib.hid (by with_reducible exact SpnAt.kept (SpnAt.zero w2) hk3)); (try have HB3 := Lib.hid (HB2.out.kept hkf)); (try obtain ⟨_, _, _, _, _, _, _, _, ⟨t0, t1, t2, t3, t4, t5⟩, hfr, hgb, _⟩ := HB3.out.at); (try have f0 := hfr 0); (try have f1 := hfr 1); (try have f2 := hfr 2); (try have f3 := hfr 3); (try have f4 := hfr 4); (try have f5 := hfr 5); clear hk3 hkf hv3))
    all_goals go_wp2_with fail
    all_goals go_meet
    all_goals
      have hsv := SpanV.of2 HV2B.out HV3.out
      have hz1 := HZ1.out
      have hk3 := HKF3.out
      first
        | with_reducible exact ⟨_, rfl, Lib.hid ⟨by omega, SpnAt.lay hsv, hk3.alloc _⟩⟩
        | with_reducible exact ⟨_, rfl, Lib.hid ⟨by omega, HB3.out.set hsv, (((((hk3.store (by omega) _ _).store (by omega) _ _).store (by omega) _ _).store (by omega) _ _).store (by omega) _ _).store (by omega) _ _⟩⟩
  case rest =>
    obtain ⟨G, rfl, HG⟩ := hcut
    obtain ⟨wa, rfl⟩ : ∃ wa : World, wa = wc := ⟨_, rfl⟩
    have HKa := Lib.hid HG.out.2.2
    have HSG := Lib.hid HG.out.2.1
    have hG1 : w1.heap.size ≤ G := by have h1 := HG.out.1; have h2 := HZ1.out; omega
    clear x0 x1 x2 hgl
    go_wp2_with fail
    go_loopg [24] 1 (fun kx s24 wr => ∃ t : Nat, t ≤ 1 ∧ s24 = .int .i64 t ∧ 1 - t ≤ kx ∧ Hid (Kept w1 wr) ∧ Hid (SpnAt wr G lo (if t = 0 then lo else hi)))
    case atStart => exact ⟨0, by omega, rfl, by omega, HKa, HSG⟩
    case round =>
      obtain ⟨t, ht, rfl, htx, HKr, HSr⟩ := hrel
      by_cases ht0 : t = 0
      · subst ht0
        obtain ⟨wo, rfl⟩ : ∃ wo : World, wo = wr := ⟨_, rfl⟩
        have x3 := HKr.out.cell HX345.out.1
        have x4 := HKr.out.cell HX345.out.2.1
        have x5 := HKr.out.cell HX345.out.2.2
        have hglo := World.block_lt_of_cell? _ _ x3
        obtain ⟨w4, hw4⟩ : ∃ w4, w4 = wo.alloc (.cells #[.bool n2, .slice a3 l2 c3, .slice a4 m2 c4] 39) := ⟨_, rfl⟩
        have hk4 : Kept wo w4 := by rw [hw4]; exact (Kept.refl _).alloc _
        have HXV := Lib.hid (HHIK.out _ (HKr.out.trans hk4))
        have HS4 : Hid (SpnAt w4 G lo lo) := Lib.hid (by have h := HSr.out; rw [if_pos rfl] at h; exact h.kept hk4)
        have hr4 := RowAt.made wo #[.bool n2, .slice a3 l2 c3, .slice a4 m2 c4] 39
        rw [← hw4] at hr4
        have z0 := hr4.cell (i := 0) (by simp)
        have z1 := hr4.cell (i := 1) (by simp)
        have z2 := hr4.cell (i := 2) (by simp)
        simp only [List.getElem_cons_succ, List.getElem_cons_zero] at z0 z1 z2
        have hfr := HS4.out.free
        have f0 := hfr 0
        have f1 := hfr 1
        have f2 := hfr 2
        have f3 := hfr 3
        have f4 := hfr 4
        have f5 := hfr 5
        obtain ⟨n5, l5, m5, n6, l6, m6, a5, c5, a6, c6, a7, c7, a8, c8, y0, y1, y2, y3, y4, y5, hgl4, HYL, HYH, _⟩ := HS4.out.read
        have HW4 := Lib.hid hw4
        have HK4 := Lib.hid hk4
        clear hr4 hfr hw4 hk4
        have hgo : G < wo.heap.size := by have h := HSr.out; rw [if_pos rfl] at h; obtain ⟨_, _, _, _, _, _, _, _, _, _, h, _⟩ := h.at; exact h
        go_upto_region 5 with fail
        rw [← HW4.out]
        go_region_law (first
          | (rw [if_pos (by rfl)]; go_simp; go_at_call 111; (with_reducible refine (HM2.out _ _ _ (HYL.out.kept (by repeat (with_reducible first | exact Kept.refl _ | apply Kept.drew))) (HXV.out.kept (by repeat (with_reducible first | exact Kept.refl _ | apply Kept.drew)))).mono ?_); rintro e w5 ⟨⟨v5, rfl, hv5⟩, hk5⟩; have hkf : Kept w4 w5 := (Kept.refl w4).drew.trans hk5; have HK5 := Lib.hid hkf; have HO5 : Hid (OnlyAt G w4 w5) := Lib.hid (OnlyAt.kept hkf); obtain ⟨s1, s2, s3, s4, s5, s6, s7, rfl⟩ := hv5.parts; have HV5 := Lib.hid hv5; have p0 := hkf.cell y0; have p1 := hkf.cell y1; have p2 := hkf.cell y2; have p3 := hkf.cell y3; have p4 := hkf.cell y4; have p5 := hkf.cell y5; have q0 := hkf.cell z0; have q1 := hkf.cell z1; have q2 := hkf.cell z2; have hg5 := World.block_lt_of_cell? _ _ p0; have hg6 := World.block_lt_of_cell? _ _ q0; clear hk5 hkf hv5)
          | (rw [if_pos (by rfl)]; go_simp; go_at_call 110; (with_reducible refine (HX2.out _ _ _ (HYH.out.kept HK5.out) (HXV.out.kept HK5.out)).mono ?_); rintro e w6 ⟨⟨v6, rfl, hv6⟩, hk6⟩; have hkf : Kept w4 w6 := HK5.out.trans hk6; have HK6 := Lib.hid hkf; have HO6 : Hid (OnlyAt G w4 w6) := Lib.hid (OnlyAt.kept hkf); obtain ⟨r1, r2, r3, r4, r5, r6, r7, rfl⟩ := hv6.parts; have HV6 := Lib.hid hv6; have HV5B := Lib.hid (HV5.out.kept hk6); have t0 := hkf.cell y0; have t1 := hkf.cell y1; have t2 := hkf.cell y2; have t3 := hkf.cell y3; have t4 := hkf.cell y4; have t5 := hkf.cell y5; have hg7 := World.block_lt_of_cell? _ _ t0; have hfr := (HS4.out.kept hkf).free; have j0 := hfr 0; have j1 := hfr 1; have j2 := hfr 2; have j3 := hfr 3; have j4 := hfr 4; have j5 := hfr 5; clear hfr hk6 hkf hv6))
        all_goals
          have hsv := Lib.hid (HS4.out.kept HK6.out |>.set (SpanV.of2 HV5B.out HV6.out))
          have hkz := Lib.hid ((((((((HKr.out.trans HK4.out).trans HK6.out).store hG1 0 (.bool s1)).store hG1 1 (.slice s4 s2 s5)).store hG1 2 (.slice s6 s3 s7)).store hG1 3 (.bool r1)).store hG1 4 (.slice r4 r2 r5)).store hG1 5 (.slice r6 r3 r7))
          clear p0 p1 p2 p3 p4 p5 q0 q1 q2 t0 t1 t2 t3 t4 t5 j0 j1 j2 j3 j4 j5
          go_wp2_with fail
          go_roundg 0
          case measure => omega
          case rel => exact ⟨1, Nat.le_refl _, rfl, by omega, hkz, Lib.hid (by rw [if_neg (by decide)]; exact hsv.out)⟩
      · have ht1 : t = 1 := by omega
        subst ht1
        have hss : SpnAt wr G lo hi := by have h := HSr.out; rw [if_neg (by decide)] at h; exact h
        obtain ⟨n5, l5, m5, n6, l6, m6, a5, c5, a6, c6, a7, c7, a8, c8, y0, y1, y2, y3, y4, y5, hgl4, _, _, HSV⟩ := hss.read
        obtain ⟨_, _, _, _, _, _, _, _, _, _, _, _, _, _, w', e9, hw', ⟨⟨z0, p0⟩, ⟨z1, p1⟩, ⟨z2, p2⟩, ⟨z3, p3⟩, ⟨z4, p4⟩, ⟨z5, p5⟩⟩, ⟨f0, f1, f2, f3, f4, f5⟩, hl9, Y, HSP, _, _, HKP⟩ := (HS1.out.kept HKr.out).put HSV.out
        simp only [Value.agg.injEq, Array.mk.injEq, List.cons.injEq, Value.bool.injEq, Value.slice.injEq, and_true] at e9
        obtain ⟨rfl, ⟨rfl, rfl, rfl⟩, ⟨rfl, rfl, rfl⟩, rfl, ⟨rfl, rfl, rfl⟩, rfl, rfl, rfl⟩ := e9
        have HKE := Lib.hid (HKP.out _ (HK1.out.trans HKr.out) (Nat.le_refl _))
        rw [hw'] at Y HSP HKE
        clear hw' hss
        go_wp2
        refine bodyPost_ret (v := .agg #[.bool n5, .slice a5 l5 c5, .slice a6 m5 c6, .bool n6, .slice a7 l6 c7, .slice a8 m6 c8]) ?_ rfl ⟨⟨_, rfl, HSP.out⟩, HKE.out⟩
        simp [results, Tryz.results194, go_sem, Y.out.1, Y.out.2.1, Y.out.2.2.1, Y.out.2.2.2.1, Y.out.2.2.2.2.1, Y.out.2.2.2.2.2]
end Go.Proofs.YtbkchheikkbebaaGreatDoor

/-
  Walks: natural.Text of zero, rational.Text of a whole number.
-/
namespace Go.Proofs.YtbkchheikkbebaaGreatDoor
open Go.RowKit

set_option maxRecDepth 100000 in
set_option maxHeartbeats 8000000 in
theorem ntext_nil (v : Value) (w : World) (hv : WdsAt w v []) : Calls Tryz.prog 159 #[v] w fun e w' => e = .returned (.string ⟨#[48]⟩) ∧ Kept w w' := by
  have HT : Hid (Calls Tryz.prog 188 #[v] w fun e w' => (∃ v', e = .returned v' ∧ WdsAt w' v' []) ∧ Kept w w') := Lib.hid (by have h := ntrim_any v [] w hv; rw [show nv [] = 0 from rfl, nw_zero] at h; exact h)
  have HTR : Hid (∀ W, Calls Tryz.prog 221 #[.string ⟨#[]⟩, .string ⟨#[48]⟩] W fun e w' => e = .returned (.string ⟨#[]⟩) ∧ w' = W) := Lib.hid fun W => Go.Proofs.Tryz.strings_TrimLeft_one ⟨#[]⟩ 48 (by decide) W
  have HV := Lib.hid hv
  obtain ⟨av, cv, rfl⟩ := hv.shape
  clear hv
  go_enter Tryz.func159, Tryz.ntmps159
  go_wp2_with fail
  refine HT.out.mono ?_
  rintro e w2 ⟨⟨v2, rfl, hv2⟩, hk2⟩
  have HV2 := Lib.hid hv2
  have HK2 := Lib.hid hk2
  obtain ⟨a2, c2, rfl⟩ := hv2.shape
  clear hv2 hk2
  go_wp2_with fail
  go_loopg [0, 3] 0 (fun kx s0 s3 wr => s0 = .slice a2 0 c2 ∧ s3 = .slice none 0 0 ∧ w2 = wr)
  case atStart => exact ⟨rfl, rfl, rfl⟩
  case round =>
    obtain ⟨rfl, rfl, rfl⟩ := hrel
    go_wp2_with fail
    obtain ⟨w4, hw4⟩ : ∃ w4, w4 = w2.alloc (.cells #[.pointer none, .slice none 0 0] 202) := ⟨_, rfl⟩
    have HBK4 : Hid (w4.heap[w2.heap.size]? = some (.cells #[.pointer none, .slice none 0 0] 202 (0, 0))) := Lib.hid (by rw [hw4]; exact heap_alloc_new w2 _)
    have HKR4 : Hid (Kept w2 w4) := Lib.hid (by rw [hw4]; exact (Kept.refl w2).alloc _)
    try rw [← hw4]
    clear hw4
    have HSG : Hid (Calls Tryz.prog 222 #[.pointer (some ⟨w2.heap.size, 0, none⟩)] w4 fun e w' => e = .returned (.string ⟨#[]⟩) ∧ Kept w2 w') := Lib.hid ((Go.Proofs.Tryz.Builder_String_empty w2.heap.size w2.heap.size w4 (.inl ⟨Nat.le_refl _, _, HBK4.out, World.ownsRow_nil _ _ _ _, by simp [Value.ownBlock]⟩) HKR4.out.size).mono fun e w' ⟨h1, h2⟩ => ⟨h1, HKR4.out.app h2⟩)
    go_loopg [7] 0 (fun kx s7 W => s7 = .int .i64 (-1) ∧ w4 = W)
    case atStart => exact ⟨by go_num, rfl⟩
    case round =>
      obtain ⟨rfl, rfl⟩ := hrel
      go_wp2_with (first
        | (go_at_call 222; refine HSG.out.mono ?_; rintro e w6 ⟨rfl, hk6⟩; have HK6 := Lib.hid hk6; clear hk6)
        | (go_at_call 221; refine (HTR.out _).mono ?_; rintro e w7 ⟨rfl, rfl⟩))
      go_ret
      exact ⟨rfl, HK2.out.trans HK6.out⟩
set_option maxRecDepth 100000 in
set_option maxHeartbeats 4000000 in
theorem rtext_whole (v : Value) (r : Rw) (xs : List Nat) (la : List UInt8) (w : World) (hv : RatAt w v r) (hs : r.Short 1) (hp : partsR r = (false, xs, [1]))
    (hx : ∀ W u, WdsAt W u xs → Calls Tryz.prog 159 #[u] W fun e w' => e = .returned (.string ⟨la.toArray⟩) ∧ Kept W w') :
    Calls Tryz.prog 83 #[v] w fun e w' => e = .returned (.string ⟨la.toArray⟩) ∧ Kept w w' := by
  have HPA : Hid (∀ W, Kept w W → Calls Tryz.prog 116 #[v] W fun e w' => (∃ u1 u2, e = .returned (.tuple #[.bool false, u1, u2]) ∧ WdsAt w' u1 xs ∧ WdsAt w' u2 [1]) ∧ Kept W w') := Lib.hid fun W hk => by
    have h := rparts_any v r W (hv.kept hk) ⟨Nat.le_trans hs.1 (by omega), Nat.le_trans hs.2 (by omega)⟩
    rw [hp] at h
    exact h
  have HTA := Lib.hid hx
  have HCM : Hid (∀ W u1 u2, WdsAt W u1 [1] → WdsAt W u2 [1] → Calls Tryz.prog 118 #[u1, u2] W fun e w' => e = .returned (.int .i64 0) ∧ Kept W w') := Lib.hid fun W u1 u2 h1 h2 => by
    have h := ncmp_any u1 u2 [1] [1] W h1 h2
    have e3 : cmpN (nv [1]) (nv [1]) = 0 := by unfold cmpN; rw [if_neg (by omega), if_neg (by omega)]
    rwa [e3] at h
  obtain ⟨u1, u2, rfl, h1, h2⟩ := hv
  obtain ⟨a1, c1, rfl⟩ := h1.shape
  obtain ⟨a2, c2, rfl⟩ := h2.shape
  generalize r.num.length = n1 at *
  generalize r.den.length = n2 at *
  generalize r.neg = b0 at *
  clear h1 h2 hp hx hs
  go_enter Tryz.func83, Tryz.ntmps83
  go_wp2_with (first
    | (go_at_call 116; refine (HPA.out _ ((Kept.refl w).alloc _)).mono ?_; rintro e w2 ⟨⟨u1, u2, rfl, hu1, hu2⟩, hk2⟩; have HU1 := Lib.hid hu1; have HU2 := Lib.hid hu2; have HK2 := Lib.hid (((Kept.refl w).alloc _).trans hk2); clear hu1 hu2 hk2)
    | (go_at_call 159; (with_reducible refine (HTA.out _ _ HU1.out).mono ?_); rintro e w3 ⟨rfl, hk3⟩; have HU3 := Lib.hid (HU2.out.kept hk3); have HK3 := Lib.hid (HK2.out.trans hk3); clear hk3)
    | (go_at_call 126; refine (rone_any _).mono ?_; rintro e w4 ⟨⟨u4, rfl, hu4⟩, hk4⟩; have HU4 := Lib.hid hu4; have HU5 := Lib.hid (HU3.out.kept hk4); have HK4 := Lib.hid (HK3.out.trans hk4); clear hu4 hk4)
    | (go_at_call 118; refine (HCM.out _ _ _ HU5.out HU4.out).mono ?_; rintro e w5 ⟨rfl, hk5⟩; have HK5 := Lib.hid (HK4.out.trans hk5); clear hk5))
  go_ret
  exact ⟨rfl, HK5.out⟩
theorem rtext_zero (v : Value) (w : World) (hv : RatAt w v (canR 0)) : Calls Tryz.prog 83 #[v] w fun e w' => e = .returned (.string ⟨#[48]⟩) ∧ Kept w w' := by
  rw [canR_zero] at hv
  exact rtext_whole v _ [] [48] w hv ⟨Nat.zero_le _, Nat.zero_le _⟩ rfl fun W u h => ntext_nil u W h
theorem one_rw : canR 1 = ⟨false, [1], [1]⟩ := by decide +kernel
theorem rtext_one (v : Value) (w : World) (hv : RatAt w v (canR 1)) : Calls Tryz.prog 83 #[v] w fun e w' => e = .returned (.string ⟨#[49]⟩) ∧ Kept w w' := by
  rw [one_rw] at hv
  exact rtext_whole v _ [1] [49] w hv ⟨Nat.le_refl _, Nat.le_refl _⟩ (by decide +kernel) fun W u h => ntext_any u [1] 1 [49] W h rfl (by decide) (by decide) (by decide) (by decide)
end Go.Proofs.YtbkchheikkbebaaGreatDoor

/-
  Walk: inclusion.Bounds. Printed by gen_EA10.py.
-/
namespace Go.Proofs.YtbkchheikkbebaaGreatDoor
open Go.RowKit

/-- The bounds after the first k rounds. -/
def loS (ps : List Rw) (l : List Nat) : Nat → Rat
  | 0 => 0
  | k + 1 => loR ps l k
def hiS (ps : List Rw) (l : List Nat) : Nat → Rat
  | 0 => 1
  | k + 1 => hiR ps l k
theorem loS_even {ps : List Rw} {l : List Nat} {k : Nat} (h : k % 2 = 0) : maxQ (loS ps l k) (altR ps l k) = loS ps l (k + 1) ∧ hiS ps l k = hiS ps l (k + 1) := by
  cases k with
  | zero =>
    refine ⟨?_, rfl⟩
    show maxQ 0 0 = 0
    unfold maxQ; rw [if_pos Rat.le_refl]
  | succ k => exact ⟨(loR_even h).symm, (hiR_even h).symm⟩
theorem loS_odd {ps : List Rw} {l : List Nat} {k : Nat} (h : k % 2 = 1) : minQ (hiS ps l k) (altR ps l k) = hiS ps l (k + 1) ∧ loS ps l k = loS ps l (k + 1) := by
  cases k with
  | zero => cases h
  | succ k => exact ⟨(hiR_odd h).symm, (loR_odd h).symm⟩
theorem bndS_short {ps : List Rw} (h30 : ps.length ≤ 30) (hs : ∀ r ∈ ps, r.Short 3) (hok : ∀ r ∈ ps, r.Ok) {l : List Nat} (hl : l.length ≤ 6) : ∀ k, (canR (loS ps l k)).Short (5889 * k + 1) ∧ (canR (hiS ps l k)).Short (5889 * k + 1) := by
  intro k
  cases k with
  | zero => exact ⟨⟨Nat.zero_le _, Nat.zero_le _⟩, one_short⟩
  | succ k =>
    have h := bnd_short h30 hs hok hl k
    exact ⟨⟨Nat.le_trans h.1.1 (by omega), Nat.le_trans h.1.2 (by omega)⟩, ⟨Nat.le_trans h.2.1 (by omega), Nat.le_trans h.2.2 (by omega)⟩⟩
/-- What Bounds answers. -/
def bndV (xs : List Int) (ps : List Rw) (k : Int) : Rat × Rat := if incE xs ps k = 0 then (loR ps (natsI xs) k.toNat, hiR ps (natsI xs) k.toNat) else (0, 0)
set_option maxRecDepth 100000 in
set_option maxHeartbeats 16000000 in
theorem ibounds_any (xv v : Value) (xs : List Int) (ps : List Rw) (k : Int) (w : World) (hx : IntsAt w xv xs) (hv : RatsAt w v ps) (h3 : ∀ r ∈ ps, r.Short 3) (h30 : ps.length ≤ 30) (h6 : xs.length ≤ 6 ∨ 12 < xs.length) :
    Calls Tryz.prog 40 #[xv, v, .int .i64 k] w fun e w' => (∃ v', e = .returned (.tuple #[v', errV (incE xs ps k)]) ∧ SpanV w' v' (canR (bndV xs ps k).1) (canR (bndV xs ps k).2)) ∧ Kept w w' := by
  have HCK : Hid (∀ W, Kept w W → Calls Tryz.prog 108 #[xv, v, .int .i64 k] W fun e w' => e = .returned (errV (incE xs ps k)) ∧ Kept W w') := Lib.hid fun W hk => incheck_any xv v xs ps k W (hx.kept hk) (hv.kept hk) h3
  have HPA : Hid (incE xs ps k = 0 → ∀ W, Kept w W → Calls Tryz.prog 109 #[xv, v] W fun e w' => (∃ g, e = .returned (.slice (some ⟨g, 0, none⟩) 13 13) ∧ W.heap.size ≤ g ∧ RatsAt w' (.slice (some ⟨g, 0, none⟩) 13 13) (altL ps (natsI xs))) ∧ Kept W w') := Lib.hid fun h0 W hk => by
    obtain ⟨hr, _, _⟩ := incE_zero h0
    have hn := hr.nlen
    refine partials_any xv v (natsI xs) ps W ?_ (hv.kept hk) h3 h30 (by have := hr.len; omega) hr.gt
    rw [← (nats_of (chk_ok hr.ok).2).1]
    exact hx.kept hk
  have HKB : Hid (incE xs ps k = 0 → 0 ≤ k ∧ k < 13) := Lib.hid fun h0 => by have := (incE_zero h0).2; omega
  have HAS : Hid (incE xs ps k = 0 → ∀ j, (canR (altR ps (natsI xs) j)).Short (5889 * j + 1)) := Lib.hid fun h0 j => by
    obtain ⟨hr, _, _⟩ := incE_zero h0
    have hn := hr.nlen
    exact altR_short h30 h3 hv.ok (by have := hr.len; omega) j
  have HBS : Hid (incE xs ps k = 0 → ∀ j, (canR (loS ps (natsI xs) j)).Short (5889 * j + 1) ∧ (canR (hiS ps (natsI xs) j)).Short (5889 * j + 1)) := Lib.hid fun h0 j => by
    obtain ⟨hr, _, _⟩ := incE_zero h0
    have hn := hr.nlen
    exact bndS_short h30 h3 hv.ok (by have := hr.len; omega) j
  have HOF : Hid (∀ W, Calls Tryz.prog 55 #[.int .i64 1] W fun e w' => (∃ v', e = .returned v' ∧ RatAt w' v' (canR 1)) ∧ Kept W w') := Lib.hid fun W => rof_any 1 W (by omega) (by omega)
  obtain ⟨R1, hR1⟩ : ∃ R1, R1 = canR (bndV xs ps k).1 := ⟨_, rfl⟩
  obtain ⟨R2, hR2⟩ : ∃ R2, R2 = canR (bndV xs ps k).2 := ⟨_, rfl⟩
  rw [← hR1, ← hR2]
  have HR1 := Lib.hid hR1
  have HR2 := Lib.hid hR2
  obtain ⟨q, hq⟩ : ∃ q, q = incE xs ps k := ⟨_, rfl⟩
  rw [← hq] at HCK HPA HKB HAS HBS ⊢
  have HQQ := Lib.hid hq
  obtain ⟨xa, xc, hxs, _⟩ := id hx
  obtain ⟨m, hml⟩ : ∃ m, m = xs.length := ⟨_, rfl⟩
  rw [← hml] at hxs
  subst hxs
  obtain ⟨pa, pc1, hps⟩ := hv.shape
  obtain ⟨pn, hpl⟩ : ∃ pn, pn = ps.length := ⟨_, rfl⟩
  rw [← hpl] at hps
  subst hps
  obtain ⟨w2, hw2⟩ : ∃ w2, w2 = w.alloc (.cells #[.bool false, .slice none 0 0, .slice none 0 0, .bool false, .slice none 0 0, .slice none 0 0] 61) := ⟨_, rfl⟩
  have HS2 : Hid (SpnAt w2 w.heap.size ⟨false, [], []⟩ ⟨false, [], []⟩) := Lib.hid (by rw [hw2]; exact SpnAt.made (lo := ⟨false, [], []⟩) (hi := ⟨false, [], []⟩) (WdsAt.nil _) (WdsAt.nil _) (WdsAt.nil _) (WdsAt.nil _))
  have HK2 : Hid (Kept w w2) := Lib.hid (by rw [hw2]; exact (Kept.refl _).alloc _)
  have HW2 := Lib.hid hw2
  clear hx hv h3 h30 h6 hR1 hR2 hq hml hpl hw2
  by_cases h0 : q = 0
  · subst h0
    rw [errV_zero] at HCK
    obtain ⟨hk0, hk13⟩ := HKB.out rfl
    obtain ⟨j, rfl⟩ : ∃ j : Nat, k = (j : Int) := ⟨k.toNat, by omega⟩
    have hj : j < 13 := by omega
    have HL1 : Hid (R1 = canR (loS ps (natsI xs) (j + 1))) := Lib.hid (by rw [HR1.out, bndV, if_pos HQQ.out.symm, Int.toNat_natCast]; rfl)
    have HL2 : Hid (R2 = canR (hiS ps (natsI xs) (j + 1))) := Lib.hid (by rw [HR2.out, bndV, if_pos HQQ.out.symm, Int.toNat_natCast]; rfl)
    replace HAS := Lib.hid (HAS.out rfl)
    replace HBS := Lib.hid (HBS.out rfl)
    replace HPA := Lib.hid (HPA.out rfl)
    generalize natsI xs = ss at *
    go_enter Tryz.func40, Tryz.ntmps40
    go_wp2_with fail
    rw [← HW2.out]
    refine (HCK.out _ HK2.out).mono ?_
    rintro e w3 ⟨rfl, hk3⟩
    have HK3 := Lib.hid (HK2.out.trans hk3)
    have HS3 := Lib.hid (HS2.out.kept hk3)
    clear hk3
    go_wp2_with fail
    refine (HOF.out _).mono ?_
    rintro e w4 ⟨⟨v4, rfl, hv4⟩, hk4⟩
    have HK4 := Lib.hid (HK3.out.trans hk4)
    have HS4 := Lib.hid (HS3.out.kept hk4)
    obtain ⟨u1, u2, rfl, h1, h2⟩ := hv4
    obtain ⟨a1, c1, rfl⟩ := h1.shape
    obtain ⟨a2, c2, rfl⟩ := h2.shape
    obtain ⟨w5, hw5⟩ : ∃ w5, w5 = w4.alloc (.cells #[.bool false, .slice none 0 0, .slice none 0 0, .bool (canR 1).neg, .slice a1 (canR 1).num.length c1, .slice a2 (canR 1).den.length c2] 61) := ⟨_, rfl⟩
    have HK5 : Hid (Kept w w5) := Lib.hid (by rw [hw5]; exact HK4.out.alloc _)
    have HS5 : Hid (SpnAt w5 w.heap.size ⟨false, [], []⟩ ⟨false, [], []⟩) := Lib.hid (by rw [hw5]; exact HS4.out.kept ((Kept.refl _).alloc _))
    have HX5 : Hid (SpnAt w5 w4.heap.size (canR (loS ps ss 0)) (canR (hiS ps ss 0))) := Lib.hid (by rw [hw5]; exact SpnAt.made (lo := ⟨false, [], []⟩) (WdsAt.nil _) (WdsAt.nil _) h1 h2)
    have HG4 : Hid (w.heap.size < w4.heap.size) := Lib.hid (by obtain ⟨_, _, _, _, _, _, _, _, _, _, h, _⟩ := HS4.out.at; exact h)
    have hs5 : w5.heap.size = w4.heap.size + 1 := by rw [hw5]; simp
    have HW5 := Lib.hid hw5
    clear h1 h2 hk4 hw5
    generalize (canR 1).neg = z1 at HW5 ⊢
    generalize (canR 1).num.length = z2 at HW5 ⊢
    generalize (canR 1).den.length = z3 at HW5 ⊢
    go_wp2_with fail
    rw [← HW5.out]
    refine (HPA.out _ HK5.out).mono ?_
    rintro e w6 ⟨⟨b, rfl, hb5, hpv⟩, hk6⟩
    have HK6 := Lib.hid (HK5.out.trans hk6)
    have HS6 := Lib.hid (HS5.out.kept hk6)
    have HX6 := Lib.hid (HX5.out.kept hk6)
    have HPV := Lib.hid hpv
    have hjc : (j : Int) + 1 ≤ 13 := by omega
    have HB5 : Hid (w4.heap.size < b) := Lib.hid (by rw [hs5] at hb5; omega)
    clear hpv hk6 hb5 hs5
    go_wp2_with fail
    go_loopg [29] (j + 1) (fun kx s29 wr => ∃ t : Nat, t ≤ j + 1 ∧ s29 = .int .i64 t ∧ j + 1 - t ≤ kx ∧ Hid (SpnAt wr w4.heap.size (canR (loS ps ss t)) (canR (hiS ps ss t))) ∧ Hid (Kept w wr) ∧ Hid (RatsAt wr (.slice (some ⟨b, 0, none⟩) 13 13) (altL ps ss)) ∧ Hid (SpnAt wr w.heap.size ⟨false, [], []⟩ ⟨false, [], []⟩))
    case atStart => exact ⟨0, Nat.zero_le _, rfl, by omega, HX6, Lib.hid (HK6.out), HPV, HS6⟩
    case round =>
      obtain ⟨t, ht, rfl, htx, HX, HKw, HPr, HSr⟩ := hrel
      by_cases hlt : t < j + 1
      · have hti : (t : Int) < (j : Int) + 1 := by omega
        have ht13 : t < 13 := by omega
        obtain ⟨b', o', u1, u2, he, hrg, hs1, hs2⟩ := HPr.out.get t (by rw [altL_len]; exact ht13)
        simp only [Option.some.injEq, Addr.mk.injEq, and_true] at he
        obtain ⟨rfl, rfl⟩ := he
        rw [altL_get ht13] at hrg hs1 hs2
        obtain ⟨a3, c3, rfl⟩ := hs1.shape
        obtain ⟨a4, c4, rfl⟩ := hs2.shape
        have z0 := hrg 0 _ rfl
        have z1 := hrg 1 _ rfl
        have z2 := hrg 2 _ rfl
        rw [Nat.add_zero] at z0
        rw [Nat.zero_add] at z0 z1 z2
        have has := HAS.out t
        have hbs := HBS.out t
        obtain ⟨wo, rfl⟩ : ∃ wo : World, wo = wr := ⟨_, rfl⟩
        obtain ⟨x, hx⟩ : ∃ x, x = canR (altR ps ss t) := ⟨_, rfl⟩
        rw [← hx] at z0 z1 z2 hs1 hs2 has
        obtain ⟨w7, hw7⟩ : ∃ w7, w7 = wo.alloc (.cells #[.bool x.neg, .slice a3 x.num.length c3, .slice a4 x.den.length c4] 39) := ⟨_, rfl⟩
        have hk7 : Kept wo w7 := by rw [hw7]; exact (Kept.refl _).alloc _
        have HXV : Hid (RatAt w7 (.agg #[.bool x.neg, .slice a3 x.num.length c3, .slice a4 x.den.length c4]) x) := Lib.hid ⟨_, _, rfl, hs1.kept hk7, hs2.kept hk7⟩
        have HKw7 := Lib.hid (HKw.out.trans hk7)
        have HPr7 := Lib.hid (HPr.out.kept hk7)
        have HSr7 := Lib.hid (HSr.out.kept hk7)
        have HX7 := Lib.hid (HX.out.kept hk7)
        obtain ⟨a5, c5, a6, c6, a7, c7, a8, c8, ⟨x0, x1, x2, x3, x4, x5⟩, hfr, hgl, y1, y2, y3, y4⟩ := HX.out.at
        replace y1 := y1.kept hk7
        replace y2 := y2.kept hk7
        replace y3 := y3.kept hk7
        replace y4 := y4.kept hk7
        have HW7 := Lib.hid hw7
        rcases Nat.mod_two_eq_zero_or_one t with hpar | hpar
        · have etm : Int.tmod (t : Int) 2 = 0 := by rw [Int.tmod_eq_emod_of_nonneg (by omega)]; omega
          obtain ⟨e1, e2⟩ := loS_even (ps := ps) (l := ss) hpar
          obtain ⟨R, hR⟩ : ∃ R, R = canR (loS ps ss (t + 1)) := ⟨_, rfl⟩
          have HMX : Hid (∀ u, RatAt w7 u (canR (loS ps ss t)) → ∀ u', RatAt w7 u' x → Calls Tryz.prog 110 #[u, u'] w7 fun e w' => (∃ v', e = .returned v' ∧ RatAt w' v' R) ∧ Kept w7 w') := Lib.hid fun u k1 u' k2 => by
            have h := rmax_any u u' _ _ w7 k1 k2 ⟨Nat.le_trans hbs.1.1 (by omega), Nat.le_trans hbs.1.2 (by omega)⟩ ⟨Nat.le_trans has.1 (by omega), Nat.le_trans has.2 (by omega)⟩
            rw [hx, ratOf_can, ratOf_can, e1, ← hR] at h
            exact h
          have HYA : Hid (RatAt w7 (.agg #[.bool (canR (loS ps ss t)).neg, .slice a5 (canR (loS ps ss t)).num.length c5, .slice a6 (canR (loS ps ss t)).den.length c6]) (canR (loS ps ss t))) := Lib.hid ⟨_, _, rfl, y1, y2⟩
          have HC := Lib.hid (HMX.out _ HYA.out _ HXV.out)
          have HE2 : Hid (canR (hiS ps ss t) = canR (hiS ps ss (t + 1))) := Lib.hid (by rw [e2])
          have HRR := Lib.hid hR
          generalize (canR (loS ps ss t)).neg = e3 at *
          generalize (canR (loS ps ss t)).num.length = e4 at *
          generalize (canR (loS ps ss t)).den.length = e5 at *
          generalize (canR (hiS ps ss t)).neg = e6 at *
          generalize (canR (hiS ps ss t)).num.length = e7 at *
          generalize (canR (hiS ps ss t)).den.length = e8 at *
          generalize x.neg = e9 at *
          generalize x.num.length = d1 at *
          generalize x.den.length = d2 at *
          clear hfr y1 y2 y3 y4 hrg hs1 hs2 has hbs hR hpar e1 e2 hx hw7 hk7
          go_wp2_with fail
          rw [← HW7.out]
          refine HC.out.mono ?_
          rintro e w8 ⟨⟨v8, rfl, hv8⟩, hk8⟩
          have hx8 := HX7.out.kept hk8
          obtain ⟨u7, u8, rfl, k7, k8⟩ := hv8
          obtain ⟨b7, d7, rfl⟩ := k7.shape
          obtain ⟨b8, d8, rfl⟩ := k8.shape
          have hs9 := hx8.lo k7 k8
          rw [HE2.out] at hs9
          have HS9 := Lib.hid hs9
          obtain ⟨_, _, _, _, _, _, _, _, ⟨t0, t1, t2, t3, t4, t5⟩, hfr8, hgl8, _⟩ := hx8.at
          have j0 := hfr8 0
          have j1 := hfr8 1
          have j2 := hfr8 2
          have HK8 := Lib.hid (HKw7.out.trans hk8)
          have HPr8 := Lib.hid (HPr7.out.kept hk8)
          have HSr8 := Lib.hid (HSr7.out.kept hk8)
          have HX8 := Lib.hid hx8
          clear k7 k8 hx8 hs9 hfr8 hk8
          generalize R.neg = n6 at *
          generalize R.num.length = n7 at *
          generalize R.den.length = n8 at *
          go_wp2_with fail
          go_roundg (j + 1 - (t + 1))
          case measure => omega
          case rel =>
            have HO := (((OnlyAt.refl w4.heap.size w8).store 0 (.bool n6)).store 1 (.slice b7 n7 d7)).store 2 (.slice b8 n8 d8)
            refine ⟨t + 1, by omega, by go_num, by omega, Lib.hid (by rw [← HRR.out]; exact HS9.out), Lib.hid (((HK8.out.store (Nat.le_of_lt HG4.out) _ _).store (Nat.le_of_lt HG4.out) _ _).store (Nat.le_of_lt HG4.out) _ _), Lib.hid (RatsAt.apart HPr8.out (Nat.ne_of_gt HB5.out) HX8.out HO), Lib.hid (ArrAt.apart HSr8.out (Nat.ne_of_lt HG4.out) HX8.out HO)⟩
        · have etm : Int.tmod (t : Int) 2 = 1 := by rw [Int.tmod_eq_emod_of_nonneg (by omega)]; omega
          obtain ⟨e1, e2⟩ := loS_odd (ps := ps) (l := ss) hpar
          obtain ⟨R, hR⟩ : ∃ R, R = canR (hiS ps ss (t + 1)) := ⟨_, rfl⟩
          have HMX : Hid (∀ u, RatAt w7 u (canR (hiS ps ss t)) → ∀ u', RatAt w7 u' x → Calls Tryz.prog 111 #[u, u'] w7 fun e w' => (∃ v', e = .returned v' ∧ RatAt w' v' R) ∧ Kept w7 w') := Lib.hid fun u k1 u' k2 => by
            have h := rmin_any u u' _ _ w7 k1 k2 ⟨Nat.le_trans hbs.2.1 (by omega), Nat.le_trans hbs.2.2 (by omega)⟩ ⟨Nat.le_trans has.1 (by omega), Nat.le_trans has.2 (by omega)⟩
            rw [hx, ratOf_can, ratOf_can, e1, ← hR] at h
            exact h
          have HYA : Hid (RatAt w7 (.agg #[.bool (canR (hiS ps ss t)).neg, .slice a7 (canR (hiS ps ss t)).num.length c7, .slice a8 (canR (hiS ps ss t)).den.length c8]) (canR (hiS ps ss t))) := Lib.hid ⟨_, _, rfl, y3, y4⟩
          have HC := Lib.hid (HMX.out _ HYA.out _ HXV.out)
          have HE2 : Hid (canR (loS ps ss t) = canR (loS ps ss (t + 1))) := Lib.hid (by rw [e2])
          have HRR := Lib.hid hR
          generalize (canR (loS ps ss t)).neg = e3 at *
          generalize (canR (loS ps ss t)).num.length = e4 at *
          generalize (canR (loS ps ss t)).den.length = e5 at *
          generalize (canR (hiS ps ss t)).neg = e6 at *
          generalize (canR (hiS ps ss t)).num.length = e7 at *
          generalize (canR (hiS ps ss t)).den.length = e8 at *
          generalize x.neg = e9 at *
          generalize x.num.length = d1 at *
          generalize x.den.length = d2 at *
          clear hfr y1 y2 y3 y4 hrg hs1 hs2 has hbs hR hpar e1 e2 hx hw7 hk7
          go_wp2_with fail
          rw [← HW7.out]
          refine HC.out.mono ?_
          rintro e w8 ⟨⟨v8, rfl, hv8⟩, hk8⟩
          have hx8 := HX7.out.kept hk8
          obtain ⟨u7, u8, rfl, k7, k8⟩ := hv8
          obtain ⟨b7, d7, rfl⟩ := k7.shape
          obtain ⟨b8, d8, rfl⟩ := k8.shape
          have hs9 := hx8.hi k7 k8
          rw [HE2.out] at hs9
          have HS9 := Lib.hid hs9
          obtain ⟨_, _, _, _, _, _, _, _, ⟨t0, t1, t2, t3, t4, t5⟩, hfr8, hgl8, _⟩ := hx8.at
          have j0 := hfr8 3
          have j1 := hfr8 4
          have j2 := hfr8 5
          have HK8 := Lib.hid (HKw7.out.trans hk8)
          have HPr8 := Lib.hid (HPr7.out.kept hk8)
          have HSr8 := Lib.hid (HSr7.out.kept hk8)
          have HX8 := Lib.hid hx8
          clear k7 k8 hx8 hs9 hfr8 hk8
          generalize R.neg = n6 at *
          generalize R.num.length = n7 at *
          generalize R.den.length = n8 at *
          go_wp2_with fail
          go_roundg (j + 1 - (t + 1))
          case measure => omega
          case rel =>
            have HO := (((OnlyAt.refl w4.heap.size w8).store 3 (.bool n6)).store 4 (.slice b7 n7 d7)).store 5 (.slice b8 n8 d8)
            refine ⟨t + 1, by omega, by go_num, by omega, Lib.hid (by rw [← HRR.out]; exact HS9.out), Lib.hid (((HK8.out.store (Nat.le_of_lt HG4.out) _ _).store (Nat.le_of_lt HG4.out) _ _).store (Nat.le_of_lt HG4.out) _ _), Lib.hid (RatsAt.apart HPr8.out (Nat.ne_of_gt HB5.out) HX8.out HO), Lib.hid (ArrAt.apart HSr8.out (Nat.ne_of_lt HG4.out) HX8.out HO)⟩
      · have hte : t = j + 1 := by omega
        have hti : ¬ (t : Int) < (j : Int) + 1 := by omega
        have HXF : Hid (SpnAt wr w4.heap.size R1 R2) := Lib.hid (by rw [HL1.out, HL2.out, ← hte]; exact HX.out)
        obtain ⟨a5, c5, a6, c6, a7, c7, a8, c8, ⟨x0, x1, x2, x3, x4, x5⟩, _, hgl, k1, k2, k3, k4⟩ := HXF.out.at
        obtain ⟨w6', hw6, ⟨y0, y1, y2, y3, y4, y5⟩, hsp⟩ := span_stored HSr.out k1 k2 k3 k4
        obtain ⟨_, _, _, _, _, _, _, _, ⟨g0, g1, g2, g3, g4, g5⟩, hfr, hlt9, _⟩ := HSr.out.at
        have f0 := hfr 0
        have f1 := hfr 1
        have f2 := hfr 2
        have f3 := hfr 3
        have f4 := hfr 4
        have f5 := hfr 5
        rw [hw6] at y0 y1 y2 y3 y4 y5 hsp
        have HSP := Lib.hid hsp
        have Y := Lib.hid (And.intro y0 (And.intro y1 (And.intro y2 (And.intro y3 (And.intro y4 y5)))))
        clear hw6 y0 y1 y2 y3 y4 y5 hsp hfr k1 k2 k3 k4 hte
        generalize R1.neg = m1 at *
        generalize R1.num.length = m2 at *
        generalize R1.den.length = m3 at *
        generalize R2.neg = m4 at *
        generalize R2.num.length = m5 at *
        generalize R2.den.length = m6 at *
        go_wp2
        refine bodyPost_ret (v := .tuple #[.agg #[.bool m1, .slice a5 m2 c5, .slice a6 m3 c6, .bool m4, .slice a7 m5 c7, .slice a8 m6 c8], .nilIface]) ?_ rfl ⟨⟨_, rfl, HSP.out⟩, ?_⟩
        · simp [results, Tryz.results40, go_sem, Y.out.1, Y.out.2.1, Y.out.2.2.1, Y.out.2.2.2.1, Y.out.2.2.2.2.1, Y.out.2.2.2.2.2]
        · exact (((((HKw.out.store (by omega) _ _).store (by omega) _ _).store (by omega) _ _).store (by omega) _ _).store (by omega) _ _).store (by omega) _ _
  · have hqe : errV q = .iface 50 (.int .i64 q) := errV_pos h0
    rw [hqe] at HCK
    have HZ1 : Hid (R1 = ⟨false, [], []⟩) := Lib.hid (by rw [HR1.out, bndV, if_neg (by rw [← HQQ.out]; exact h0)]; exact canR_zero)
    have HZ2 : Hid (R2 = ⟨false, [], []⟩) := Lib.hid (by rw [HR2.out, bndV, if_neg (by rw [← HQQ.out]; exact h0)]; exact canR_zero)
    have HQE := Lib.hid hqe
    clear hqe h0
    go_enter Tryz.func40, Tryz.ntmps40
    go_wp2_with fail
    rw [← HW2.out]
    refine (HCK.out _ HK2.out).mono ?_
    rintro e w5 ⟨rfl, hk5⟩
    have hs5 := HS2.out.kept hk5
    have HK5 := Lib.hid (HK2.out.trans hk5)
    obtain ⟨w6, hw6, ⟨y0, y1, y2, y3, y4, y5⟩, hsp⟩ := span_stored (lo := ⟨false, [], []⟩) (hi := ⟨false, [], []⟩) hs5 (WdsAt.nil _) (WdsAt.nil _) (WdsAt.nil _) (WdsAt.nil _)
    obtain ⟨_, _, _, _, _, _, _, _, ⟨g0, g1, g2, g3, g4, g5⟩, hfr, hlt, _⟩ := hs5.at
    have f0 := hfr 0
    have f1 := hfr 1
    have f2 := hfr 2
    have f3 := hfr 3
    have f4 := hfr 4
    have f5 := hfr 5
    rw [hw6] at y0 y1 y2 y3 y4 y5 hsp
    have HSP := Lib.hid hsp
    have Y := Lib.hid (And.intro y0 (And.intro y1 (And.intro y2 (And.intro y3 (And.intro y4 y5)))))
    clear hs5 hk5 hw6 y0 y1 y2 y3 y4 y5 hsp hfr
    go_wp2
    refine bodyPost_ret (v := .tuple #[.agg #[.bool false, .slice none 0 0, .slice none 0 0, .bool false, .slice none 0 0, .slice none 0 0], .iface 50 (.int .i64 q)]) ?_ rfl ⟨⟨_, by rw [HQE.out], by rw [HZ1.out, HZ2.out]; exact HSP.out⟩, ?_⟩
    · simp [results, Tryz.results40, go_sem, Y.out.1, Y.out.2.1, Y.out.2.2.1, Y.out.2.2.2.1, Y.out.2.2.2.2.1, Y.out.2.2.2.2.2]
    · exact (((((HK5.out.store (by omega) _ _).store (by omega) _ _).store (by omega) _ _).store (by omega) _ _).store (by omega) _ _).store (by omega) _ _
end Go.Proofs.YtbkchheikkbebaaGreatDoor

/-
  Walk: faultlineref39.Bounds. Printed by gen_EA13.py.
-/
namespace Go.Proofs.YtbkchheikkbebaaGreatDoor
open Go.RowKit

theorem RatCell.fix {w : World} {g : Nat} {r : Rw} (h : RatCell w g r) : ∃ row, FixAt w g row ∧ ∀ k x, Value.int k x ∉ row := by
  obtain ⟨b1, d1, b2, d2, _, hf, _, _⟩ := h
  exact ⟨_, hf, by simp⟩
theorem ArrAt.apartC {w w' : World} {p g : Nat} {t : TypeId} {rs : List Rw} {r : Rw} (h : ArrAt w p t rs) (hne : p ≠ g) (hg : RatCell w g r) (ho : OnlyAt g w w') : ArrAt w' p t rs := by
  obtain ⟨row, hf, hn⟩ := hg.fix
  obtain ⟨L, e, h1, h2, h3⟩ := h
  refine ⟨L, e, ho.row h1 hne, ?_, fun x hx => ⟨(h3 x hx).1.apart hf hn ho, (h3 x hx).2.apart hf hn ho⟩⟩
  have hl := h2.lt
  obtain ⟨cur, e2, k1, k2⟩ := h2
  exact ⟨cur, e2, (ho.block p hl hne).trans k1, k2⟩
theorem RatCell.apartA {w w' : World} {p g : Nat} {t : TypeId} {rs : List Rw} {r : Rw} (h : RatCell w p r) (hne : p ≠ g) (hg : ArrAt w g t rs) (ho : OnlyAt g w w') : RatCell w' p r := by
  obtain ⟨row, hf, hn⟩ := hg.fix
  obtain ⟨a1, c1, a2, c2, h1, h2, h3, h4⟩ := h
  have hl := h2.lt
  obtain ⟨cur, e2, k1, k2⟩ := h2
  exact ⟨a1, c1, a2, c2, ho.row h1 hne, ⟨cur, e2, (ho.block p hl hne).trans k1, k2⟩, h3.apart hf hn ho, h4.apart hf hn ho⟩
/-- A fraction's variable, stored: its cells, its value. -/
theorem RatCell.put {w : World} {g : Nat} {r r' : Rw} {a1 a2 : Option Addr} {c1 c2 : Nat} (h : RatCell w g r) (h1 : WdsAt w (.slice a1 r'.num.length c1) r'.num) (h2 : WdsAt w (.slice a2 r'.den.length c2) r'.den) :
    ∃ w', w' = ((w.setCell ⟨g, 0, none⟩ (.bool r'.neg)).setCell ⟨g, 1, none⟩ (.slice a1 r'.num.length c1)).setCell ⟨g, 2, none⟩ (.slice a2 r'.den.length c2) ∧ RatCell w' g r' ∧
      (w'.cell? ⟨g, 0, none⟩ = some (.bool r'.neg) ∧ w'.cell? ⟨g, 1, none⟩ = some (.slice a1 r'.num.length c1) ∧ w'.cell? ⟨g, 2, none⟩ = some (.slice a2 r'.den.length c2)) ∧
      RatAt w' (.agg #[.bool r'.neg, .slice a1 r'.num.length c1, .slice a2 r'.den.length c2]) r' ∧ OnlyAt g w w' := by
  have hO := (((OnlyAt.refl g w).store 0 (.bool r'.neg)).store 1 (.slice a1 r'.num.length c1)).store 2 (.slice a2 r'.den.length c2)
  refine ⟨_, rfl, h.store h1 h2, ?_, ?_, hO⟩
  · obtain ⟨_, _, _, _, hrow, _, _, _⟩ := h
    have hrw := ((hrow.store 0 (.bool r'.neg)).store 1 (.slice a1 r'.num.length c1)).store 2 (.slice a2 r'.den.length c2)
    simp only [List.set_cons_zero, List.set_cons_succ] at hrw
    exact ⟨hrw.cell (i := 0) (by simp), hrw.cell (i := 1) (by simp), hrw.cell (i := 2) (by simp)⟩
  · obtain ⟨row, hf, hn⟩ := h.fix
    exact ⟨_, _, rfl, h1.apart hf hn hO, h2.apart hf hn hO⟩
set_option maxRecDepth 100000 in
set_option maxHeartbeats 16000000 in
theorem rinbnd_any (xv v : Value) (xs : List Int) (ps : List Rw) (k : Int) (w : World) (hx : IntsAt w xv xs) (hv : RatsAt w v ps) (h3 : ∀ r ∈ ps, r.Short 3) (h30 : ps.length ≤ 30) (h6 : xs.length ≤ 6 ∨ 12 < xs.length) :
    Calls Tryz.prog 41 #[xv, v, .int .i64 k] w fun e w' => (∃ v', e = .returned (.tuple #[v', .int .i64 (incE xs ps k : Nat)]) ∧ SpanV w' v' (canR (bndV xs ps k).1) (canR (bndV xs ps k).2)) ∧ Kept w w' := by
  have HCK : Hid (∀ W, Kept w W → Calls Tryz.prog 105 #[xv, v, .int .i64 k] W fun e w' => e = .returned (.int .i64 (incE xs ps k : Nat)) ∧ Kept W w') := Lib.hid fun W hk => refincheck_any xv v xs ps k W (hx.kept hk) (hv.kept hk) h3
  have HSU : Hid (incE xs ps k = 0 → ∀ n : Nat, n ≤ 12 → ∀ W, Kept w W → Calls Tryz.prog 106 #[xv, v, .int .i64 n, .int .i64 0] W fun e w' => (∃ v', e = .returned v' ∧ RatAt w' v' (canR (incR ps (natsI xs) n))) ∧ Kept W w') := Lib.hid fun h0 n hn W hk => by
    obtain ⟨hr, _, _⟩ := incE_zero h0
    have hnl := hr.nlen
    have hxn : IntsAt W xv (ofN (natsI xs)) := by rw [← (nats_of (chk_ok hr.ok).2).1]; exact hx.kept hk
    exact refsum_any v ps h3 h30 (natsI xs) xv n 0 W hxn (hv.kept hk) (by have := hr.len; omega) hn hr.gt (by decide) (pow_gt (by omega) (Nat.two_pow_pos _))
  have HKB : Hid (incE xs ps k = 0 → 0 ≤ k ∧ k < 13) := Lib.hid fun h0 => by have := (incE_zero h0).2; omega
  have HAS : Hid (incE xs ps k = 0 → ∀ n, (canR (altR ps (natsI xs) n)).Short (5889 * n + 1)) := Lib.hid fun h0 n => by
    obtain ⟨hr, _, _⟩ := incE_zero h0
    have hnl := hr.nlen
    exact altR_short h30 h3 hv.ok (by have := hr.len; omega) n
  have HIS : Hid (incE xs ps k = 0 → ∀ n, (canR (incR ps (natsI xs) n)).Short 5888) := Lib.hid fun h0 n => by
    obtain ⟨hr, _, _⟩ := incE_zero h0
    have hnl := hr.nlen
    exact incR_short h30 h3 hv.ok (by have := hr.len; omega) n
  have HBS : Hid (incE xs ps k = 0 → ∀ n, (canR (loR ps (natsI xs) n)).Short (5889 * n + 1) ∧ (canR (hiR ps (natsI xs) n)).Short (5889 * n + 1)) := Lib.hid fun h0 n => by
    obtain ⟨hr, _, _⟩ := incE_zero h0
    have hnl := hr.nlen
    exact bnd_short h30 h3 hv.ok (by have := hr.len; omega) n
  have HOF : Hid (∀ W, Calls Tryz.prog 112 #[.int .i64 1] W fun e w' => (∃ v', e = .returned v' ∧ RatAt w' v' (canR 1)) ∧ Kept W w') := Lib.hid fun W => refof_any 1 W (by omega)
  obtain ⟨R1, hR1⟩ : ∃ R1, R1 = canR (bndV xs ps k).1 := ⟨_, rfl⟩
  obtain ⟨R2, hR2⟩ : ∃ R2, R2 = canR (bndV xs ps k).2 := ⟨_, rfl⟩
  rw [← hR1, ← hR2]
  have HR1 := Lib.hid hR1
  have HR2 := Lib.hid hR2
  obtain ⟨q, hq⟩ : ∃ q, q = incE xs ps k := ⟨_, rfl⟩
  rw [← hq] at HCK HSU HKB HAS HIS HBS ⊢
  have HQQ := Lib.hid hq
  obtain ⟨xa, xc, hxs, _⟩ := id hx
  obtain ⟨m, hml⟩ : ∃ m, m = xs.length := ⟨_, rfl⟩
  rw [← hml] at hxs
  subst hxs
  obtain ⟨pa, pc1, hps⟩ := hv.shape
  obtain ⟨pn, hpl⟩ : ∃ pn, pn = ps.length := ⟨_, rfl⟩
  rw [← hpl] at hps
  subst hps
  obtain ⟨w2, hw2⟩ : ∃ w2, w2 = w.alloc (.cells #[.bool false, .slice none 0 0, .slice none 0 0, .bool false, .slice none 0 0, .slice none 0 0] 61) := ⟨_, rfl⟩
  have HS2 : Hid (SpnAt w2 w.heap.size ⟨false, [], []⟩ ⟨false, [], []⟩) := Lib.hid (by rw [hw2]; exact SpnAt.made (lo := ⟨false, [], []⟩) (hi := ⟨false, [], []⟩) (WdsAt.nil _) (WdsAt.nil _) (WdsAt.nil _) (WdsAt.nil _))
  have HK2 : Hid (Kept w w2) := Lib.hid (by rw [hw2]; exact (Kept.refl _).alloc _)
  have HW2 := Lib.hid hw2
  clear hx hv h3 h30 h6 hR1 hR2 hq hml hpl hw2
  by_cases h0 : q = 0
  · subst h0
    obtain ⟨hk0, hk13⟩ := HKB.out rfl
    replace HSU := Lib.hid (HSU.out rfl)
    obtain ⟨j, rfl⟩ : ∃ j : Nat, k = (j : Int) := ⟨k.toNat, by omega⟩
    have hj : j < 13 := by omega
    have HL1 : Hid (R1 = canR (loR ps (natsI xs) j)) := Lib.hid (by rw [HR1.out, bndV, if_pos HQQ.out.symm, Int.toNat_natCast])
    have HL2 : Hid (R2 = canR (hiR ps (natsI xs) j)) := Lib.hid (by rw [HR2.out, bndV, if_pos HQQ.out.symm, Int.toNat_natCast])
    replace HAS := Lib.hid (HAS.out rfl)
    replace HIS := Lib.hid (HIS.out rfl)
    replace HBS := Lib.hid (HBS.out rfl)
    generalize natsI xs = ss at *
    go_enter Tryz.func41, Tryz.ntmps41
    go_wp2_with fail
    rw [← HW2.out]
    refine (HCK.out _ HK2.out).mono ?_
    rintro e w3 ⟨rfl, hk3⟩
    have HK3 := Lib.hid (HK2.out.trans hk3)
    have HS3 := Lib.hid (HS2.out.kept hk3)
    clear hk3
    go_wp2_with fail
    refine (HOF.out _).mono ?_
    rintro e w4 ⟨⟨v4, rfl, hv4⟩, hk4⟩
    have HK4 := Lib.hid (HK3.out.trans hk4)
    have HS4 := Lib.hid (HS3.out.kept hk4)
    obtain ⟨u1, u2, rfl, h1, h2⟩ := hv4
    obtain ⟨a1, c1, rfl⟩ := h1.shape
    obtain ⟨a2, c2, rfl⟩ := h2.shape
    obtain ⟨w5, hw5⟩ : ∃ w5, w5 = w4.alloc (.cells #[.bool false, .slice none 0 0, .slice none 0 0, .bool (canR 1).neg, .slice a1 (canR 1).num.length c1, .slice a2 (canR 1).den.length c2] 61) := ⟨_, rfl⟩
    have hk5 : Kept w4 w5 := by rw [hw5]; exact (Kept.refl _).alloc _
    have hx5 : SpnAt w5 w4.heap.size (canR (loR ps ss 0)) (canR (hiR ps ss 0)) := by rw [hw5]; exact SpnAt.made (lo := ⟨false, [], []⟩) (WdsAt.nil _) (WdsAt.nil _) h1 h2
    have HS5 : Hid (w5.heap.size = w4.heap.size + 1) := Lib.hid (by rw [hw5]; simp)
    obtain ⟨w6, hw6⟩ : ∃ w6, w6 = w5.alloc (.cells #[.bool false, .slice none 0 0, .slice none 0 0] 39) := ⟨_, rfl⟩
    have hk56 : Kept w5 w6 := by rw [hw6]; exact (Kept.refl _).alloc _
    have HC6 : Hid (RatCell w6 w5.heap.size (canR (altR ps ss 0))) := Lib.hid (by rw [hw6]; exact RatCell.made (r := ⟨false, [], []⟩) (WdsAt.nil w5) (WdsAt.nil w5))
    have HX6 := Lib.hid (hx5.kept hk56)
    have HK6 := Lib.hid (hk5.trans hk56)
    have HG4 : Hid (w.heap.size < w4.heap.size) := Lib.hid (by obtain ⟨_, _, _, _, _, _, _, _, _, _, h, _⟩ := HS4.out.at; exact h)
    have HG5 : Hid (w4.heap.size < w5.heap.size) := Lib.hid (by have := HS5.out; omega)
    have HW5 := Lib.hid hw5
    have HW6 := Lib.hid hw6
    clear h1 h2 hk4 hw5 hw6 hk5 hx5 hk56
    generalize (canR 1).neg = z1 at HW5 ⊢
    generalize (canR 1).num.length = z2 at HW5 ⊢
    generalize (canR 1).den.length = z3 at HW5 ⊢
    go_wp2_with fail
    rw [← HW5.out, ← HS5.out, ← HW6.out]
    go_loopg [11] (j + 1) (fun kx s11 wr => ∃ n : Nat, 1 ≤ n ∧ n ≤ j + 1 ∧ s11 = .int .i64 n ∧ j + 1 - n ≤ kx ∧ Hid (SpnAt wr w4.heap.size (canR (loR ps ss (n - 1))) (canR (hiR ps ss (n - 1)))) ∧ Hid (RatCell wr w5.heap.size (canR (altR ps ss (n - 1)))) ∧ Hid (Kept w4 wr))
    case atStart => exact ⟨1, Nat.le_refl _, by omega, rfl, by omega, HX6, HC6, HK6⟩
    case round =>
      obtain ⟨n, hn1, hn, rfl, hnx, HX, HC, HKr⟩ := hrel
      have HKw := Lib.hid (HK4.out.trans HKr.out)
      by_cases hlt : n ≤ j
      · have hni : (n : Int) ≤ (j : Int) := by omega
        have hn12 : n ≤ 12 := by omega
        obtain ⟨i, hi⟩ : ∃ i, i = n - 1 := ⟨_, rfl⟩
        have hin : n = i + 1 := by omega
        rw [← hi] at HX HC
        have has := HAS.out i
        have hat := HAS.out n
        have his := HIS.out n
        have hbs := HBS.out i
        obtain ⟨wo, rfl⟩ : ∃ wo : World, wo = wr := ⟨_, rfl⟩
        have HSN := Lib.hid (HSU.out n hn12)
        obtain ⟨a5, c5, a6, c6, ⟨x0, x1, x2⟩, _, hgc, hxa⟩ := HC.out.at
        have HXA := Lib.hid hxa
        obtain ⟨X, hX⟩ : ∃ X, X = canR (altR ps ss n) := ⟨_, rfl⟩
        rw [← hX] at hat
        have hXr : ratOf X = altR ps ss n := by rw [hX]; exact ratOf_can _
        rcases Nat.mod_two_eq_zero_or_one n with hpar | hpar
        · have etm : Int.tmod (n : Int) 2 = 0 := by rw [Int.tmod_eq_emod_of_nonneg (by omega)]; omega
          have HSB : Hid (∀ W u1 u2, RatAt W u1 (canR (altR ps ss i)) → RatAt W u2 (canR (incR ps ss n)) → Calls Tryz.prog 113 #[u1, u2] W fun e w' => (∃ v', e = .returned v' ∧ RatAt w' v' X) ∧ Kept W w') := Lib.hid fun W u1 u2 k1 k2 => by
            have h := refsub02_any u1 u2 _ _ W k1 k2 ⟨Nat.le_trans has.1 (by omega), Nat.le_trans has.2 (by omega)⟩ ⟨Nat.le_trans his.1 (by omega), Nat.le_trans his.2 (by omega)⟩
            rw [ratOf_can, ratOf_can, hin, ← altR_even (by omega), ← hin, ← hX] at h
            exact h
          obtain ⟨R9, hR9⟩ : ∃ R9, R9 = canR (loR ps ss n) := ⟨_, rfl⟩
          have HMX : Hid (∀ W u1 u2, RatAt W u1 (canR (loR ps ss i)) → RatAt W u2 X → Calls Tryz.prog 114 #[u1, u2] W fun e w' => (∃ v', e = .returned v' ∧ RatAt w' v' R9) ∧ Kept W w') := Lib.hid fun W u1 u2 k1 k2 => by
            have h := refmax_any u1 u2 _ _ W k1 k2 ⟨Nat.le_trans hbs.1.1 (by omega), Nat.le_trans hbs.1.2 (by omega)⟩ ⟨Nat.le_trans hat.1 (by omega), Nat.le_trans hat.2 (by omega)⟩
            rw [ratOf_can, hXr, hin, ← loR_even (by omega), ← hin, ← hR9] at h
            exact h
          have HOT : Hid (canR (hiR ps ss i) = canR (hiR ps ss n)) := Lib.hid (by rw [hin, hiR_even (by omega)])
          have HR9 := Lib.hid hR9
          have HXX := Lib.hid hX
          generalize (canR (altR ps ss i)).neg = z3 at *
          generalize (canR (altR ps ss i)).num.length = z4 at *
          generalize (canR (altR ps ss i)).den.length = z5 at *
          clear has hat his hbs hi hin hX hXr hR9 hpar hxa
          go_wp2_with fail
          go_region_with (first
            | (go_at_call 106; (with_reducible refine (HSN.out _ HKw.out.drew).mono ?_); rintro e w7 ⟨⟨v7, rfl, hv7⟩, hk7⟩; have hkd := (Kept.refl wo).drew.trans hk7; have i0 := hkd.cell x0; have i1 := hkd.cell x1; have i2 := hkd.cell x2; have HC7 := Lib.hid (HC.out.kept hkd); have HX7 := Lib.hid (HX.out.kept hkd); have HXA7 := Lib.hid (HXA.out.kept hkd); have HK7 := Lib.hid (HKr.out.trans hkd); have HV7 := Lib.hid hv7; clear hk7 hkd hv7)
            | (go_at_call 113; (with_reducible refine (HSB.out _ _ _ HXA7.out HV7.out).mono ?_); rintro e w8 ⟨⟨v8, rfl, hv8⟩, hk8⟩; have HC8 := Lib.hid (HC7.out.kept hk8); have HX8 := Lib.hid (HX7.out.kept hk8); have HK8 := Lib.hid (HK7.out.trans hk8); obtain ⟨u7, u8, rfl, k7, k8⟩ := hv8; obtain ⟨a7, c7, rfl⟩ := k7.shape; obtain ⟨a8, c8, rfl⟩ := k8.shape; have K7 := Lib.hid k7; have K8 := Lib.hid k8; obtain ⟨_, _, _, _, ⟨t0, t1, t2⟩, ⟨f0, f1, f2⟩, hgl8, _⟩ := HC8.out.at; clear k7 k8 hk8))
          all_goals
            obtain ⟨w9, hw9, hc9, ⟨s0, s1, s2⟩, hxv, hO⟩ := HC8.out.put K7.out K8.out
            have hx9 : SpnAt w9 w4.heap.size (canR (loR ps ss i)) (canR (hiR ps ss i)) := ArrAt.apartC HX8.out (Nat.ne_of_lt HG5.out) HC8.out hO
            have HK9 := Lib.hid (hO.toKept HK8.out (Nat.le_of_lt HG5.out))
            have HC9 := Lib.hid hc9
            have HX9 := Lib.hid hx9
            have HXV := Lib.hid hxv
            obtain ⟨b1, d1, b2, d2, b3, d3, b4, d4, ⟨o0, o1, o2, o3, o4, o5⟩, hfr9, hgl9, y1, y2, y3, y4⟩ := hx9.at
            have HYA : Hid (RatAt w9 (.agg #[.bool (canR (loR ps ss i)).neg, .slice b1 (canR (loR ps ss i)).num.length d1, .slice b2 (canR (loR ps ss i)).den.length d2]) (canR (loR ps ss i))) := Lib.hid ⟨_, _, rfl, y1, y2⟩
            have HW9 := Lib.hid hw9
            have hne9 : ¬ w4.heap.size = w5.heap.size := Nat.ne_of_lt HG5.out
            rw [hw9] at s0 s1 s2 o0 o1 o2 o3 o4 o5
            clear hw9 hc9 hxv hx9 hO hfr9 y1 y2 y3 y4 hgl9
            generalize X.neg = e0 at *
            generalize X.num.length = e1 at *
            generalize X.den.length = e2 at *
            generalize (canR (loR ps ss i)).neg = e3 at *
            generalize (canR (loR ps ss i)).num.length = e4 at *
            generalize (canR (loR ps ss i)).den.length = e5 at *
            generalize (canR (hiR ps ss i)).neg = e6 at *
            generalize (canR (hiR ps ss i)).num.length = e7 at *
            generalize (canR (hiR ps ss i)).den.length = e8 at *
            go_wp2_with fail
            rw [← HW9.out]
            refine (HMX.out _ _ _ HYA.out HXV.out).mono ?_
            rintro e wa ⟨⟨va, rfl, hva⟩, hka⟩
            have hxa := HX9.out.kept hka
            have hca := HC9.out.kept hka
            have HKa := Lib.hid (HK9.out.trans hka)
            obtain ⟨u9, u0, rfl, k9, k0⟩ := hva
            obtain ⟨a9, c9, rfl⟩ := k9.shape
            obtain ⟨a0, c0, rfl⟩ := k0.shape
            have hsa := hxa.lo k9 k0
            have hOa := (((OnlyAt.refl w4.heap.size wa).store 0 (.bool R9.neg)).store 1 (.slice a9 R9.num.length c9)).store 2 (.slice a0 R9.den.length c0)
            have hcb := hca.apartA (Nat.ne_of_gt HG5.out) hxa hOa
            obtain ⟨_, _, _, _, _, _, _, _, ⟨l0, l1, l2, l3, l4, l5⟩, hfra, hgla, _⟩ := hxa.at
            have j0 := hfra 0
            have j1 := hfra 1
            have j2 := hfra 2
            rw [HOT.out] at hsa
            have HSA := Lib.hid hsa
            have HCB := Lib.hid hcb
            clear hxa hca hsa hOa hcb hfra k9 k0 hka s0 s1 s2 o0 o1 o2 o3 o4 o5
            generalize R9.neg = n6 at *
            generalize R9.num.length = n7 at *
            generalize R9.den.length = n8 at *
            go_wp2_with fail
            go_roundg (j + 1 - (n + 1))
            case measure => omega
            case rel => exact ⟨n + 1, by omega, by omega, by go_num, by omega, Lib.hid (by rw [Nat.add_sub_cancel, ← HR9.out]; exact HSA.out), Lib.hid (by rw [Nat.add_sub_cancel, ← HXX.out]; exact HCB.out), Lib.hid (((HKa.out.store (Nat.le_refl _) _ _).store (Nat.le_refl _) _ _).store (Nat.le_refl _) _ _)⟩
        · have etm : Int.tmod (n : Int) 2 = 1 := by rw [Int.tmod_eq_emod_of_nonneg (by omega)]; omega
          have HSB : Hid (∀ W u1 u2, RatAt W u1 (canR (altR ps ss i)) → RatAt W u2 (canR (incR ps ss n)) → Calls Tryz.prog 91 #[u1, u2] W fun e w' => (∃ v', e = .returned v' ∧ RatAt w' v' X) ∧ Kept W w') := Lib.hid fun W u1 u2 k1 k2 => by
            have h := refadd02_any u1 u2 _ _ W k1 k2 ⟨Nat.le_trans has.1 (by omega), Nat.le_trans has.2 (by omega)⟩ ⟨Nat.le_trans his.1 (by omega), Nat.le_trans his.2 (by omega)⟩
            rw [ratOf_can, ratOf_can, hin, ← altR_odd (by omega), ← hin, ← hX] at h
            exact h
          obtain ⟨R9, hR9⟩ : ∃ R9, R9 = canR (hiR ps ss n) := ⟨_, rfl⟩
          have HMX : Hid (∀ W u1 u2, RatAt W u1 (canR (hiR ps ss i)) → RatAt W u2 X → Calls Tryz.prog 115 #[u1, u2] W fun e w' => (∃ v', e = .returned v' ∧ RatAt w' v' R9) ∧ Kept W w') := Lib.hid fun W u1 u2 k1 k2 => by
            have h := refmin_any u1 u2 _ _ W k1 k2 ⟨Nat.le_trans hbs.2.1 (by omega), Nat.le_trans hbs.2.2 (by omega)⟩ ⟨Nat.le_trans hat.1 (by omega), Nat.le_trans hat.2 (by omega)⟩
            rw [ratOf_can, hXr, hin, ← hiR_odd (by omega), ← hin, ← hR9] at h
            exact h
          have HOT : Hid (canR (loR ps ss i) = canR (loR ps ss n)) := Lib.hid (by rw [hin, loR_odd (by omega)])
          have HR9 := Lib.hid hR9
          have HXX := Lib.hid hX
          generalize (canR (altR ps ss i)).neg = z3 at *
          generalize (canR (altR ps ss i)).num.length = z4 at *
          generalize (canR (altR ps ss i)).den.length = z5 at *
          clear has hat his hbs hi hin hX hXr hR9 hpar hxa
          go_wp2_with fail
          go_region_with (first
            | (go_at_call 106; (with_reducible refine (HSN.out _ HKw.out.drew).mono ?_); rintro e w7 ⟨⟨v7, rfl, hv7⟩, hk7⟩; have hkd := (Kept.refl wo).drew.trans hk7; have i0 := hkd.cell x0; have i1 := hkd.cell x1; have i2 := hkd.cell x2; have HC7 := Lib.hid (HC.out.kept hkd); have HX7 := Lib.hid (HX.out.kept hkd); have HXA7 := Lib.hid (HXA.out.kept hkd); have HK7 := Lib.hid (HKr.out.trans hkd); have HV7 := Lib.hid hv7; clear hk7 hkd hv7)
            | (go_at_call 91; (with_reducible refine (HSB.out _ _ _ HXA7.out HV7.out).mono ?_); rintro e w8 ⟨⟨v8, rfl, hv8⟩, hk8⟩; have HC8 := Lib.hid (HC7.out.kept hk8); have HX8 := Lib.hid (HX7.out.kept hk8); have HK8 := Lib.hid (HK7.out.trans hk8); obtain ⟨u7, u8, rfl, k7, k8⟩ := hv8; obtain ⟨a7, c7, rfl⟩ := k7.shape; obtain ⟨a8, c8, rfl⟩ := k8.shape; have K7 := Lib.hid k7; have K8 := Lib.hid k8; obtain ⟨_, _, _, _, ⟨t0, t1, t2⟩, ⟨f0, f1, f2⟩, hgl8, _⟩ := HC8.out.at; clear k7 k8 hk8))
          all_goals
            obtain ⟨w9, hw9, hc9, ⟨s0, s1, s2⟩, hxv, hO⟩ := HC8.out.put K7.out K8.out
            have hx9 : SpnAt w9 w4.heap.size (canR (loR ps ss i)) (canR (hiR ps ss i)) := ArrAt.apartC HX8.out (Nat.ne_of_lt HG5.out) HC8.out hO
            have HK9 := Lib.hid (hO.toKept HK8.out (Nat.le_of_lt HG5.out))
            have HC9 := Lib.hid hc9
            have HX9 := Lib.hid hx9
            have HXV := Lib.hid hxv
            obtain ⟨b1, d1, b2, d2, b3, d3, b4, d4, ⟨o0, o1, o2, o3, o4, o5⟩, hfr9, hgl9, y1, y2, y3, y4⟩ := hx9.at
            have HYA : Hid (RatAt w9 (.agg #[.bool (canR (hiR ps ss i)).neg, .slice b3 (canR (hiR ps ss i)).num.length d3, .slice b4 (canR (hiR ps ss i)).den.length d4]) (canR (hiR ps ss i))) := Lib.hid ⟨_, _, rfl, y3, y4⟩
            have HW9 := Lib.hid hw9
            have hne9 : ¬ w4.heap.size = w5.heap.size := Nat.ne_of_lt HG5.out
            rw [hw9] at s0 s1 s2 o0 o1 o2 o3 o4 o5
            clear hw9 hc9 hxv hx9 hO hfr9 y1 y2 y3 y4 hgl9
            generalize X.neg = e0 at *
            generalize X.num.length = e1 at *
            generalize X.den.length = e2 at *
            generalize (canR (loR ps ss i)).neg = e3 at *
            generalize (canR (loR ps ss i)).num.length = e4 at *
            generalize (canR (loR ps ss i)).den.length = e5 at *
            generalize (canR (hiR ps ss i)).neg = e6 at *
            generalize (canR (hiR ps ss i)).num.length = e7 at *
            generalize (canR (hiR ps ss i)).den.length = e8 at *
            go_wp2_with fail
            rw [← HW9.out]
            refine (HMX.out _ _ _ HYA.out HXV.out).mono ?_
            rintro e wa ⟨⟨va, rfl, hva⟩, hka⟩
            have hxa := HX9.out.kept hka
            have hca := HC9.out.kept hka
            have HKa := Lib.hid (HK9.out.trans hka)
            obtain ⟨u9, u0, rfl, k9, k0⟩ := hva
            obtain ⟨a9, c9, rfl⟩ := k9.shape
            obtain ⟨a0, c0, rfl⟩ := k0.shape
            have hsa := hxa.hi k9 k0
            have hOa := (((OnlyAt.refl w4.heap.size wa).store 3 (.bool R9.neg)).store 4 (.slice a9 R9.num.length c9)).store 5 (.slice a0 R9.den.length c0)
            have hcb := hca.apartA (Nat.ne_of_gt HG5.out) hxa hOa
            obtain ⟨_, _, _, _, _, _, _, _, ⟨l0, l1, l2, l3, l4, l5⟩, hfra, hgla, _⟩ := hxa.at
            have j0 := hfra 3
            have j1 := hfra 4
            have j2 := hfra 5
            rw [HOT.out] at hsa
            have HSA := Lib.hid hsa
            have HCB := Lib.hid hcb
            clear hxa hca hsa hOa hcb hfra k9 k0 hka s0 s1 s2 o0 o1 o2 o3 o4 o5
            generalize R9.neg = n6 at *
            generalize R9.num.length = n7 at *
            generalize R9.den.length = n8 at *
            go_wp2_with fail
            go_roundg (j + 1 - (n + 1))
            case measure => omega
            case rel => exact ⟨n + 1, by omega, by omega, by go_num, by omega, Lib.hid (by rw [Nat.add_sub_cancel, ← HR9.out]; exact HSA.out), Lib.hid (by rw [Nat.add_sub_cancel, ← HXX.out]; exact HCB.out), Lib.hid (((HKa.out.store (Nat.le_refl _) _ _).store (Nat.le_refl _) _ _).store (Nat.le_refl _) _ _)⟩
      · have hne : n - 1 = j := by omega
        have hni : ¬ (n : Int) ≤ (j : Int) := by omega
        have HSr := Lib.hid (HS4.out.kept HKr.out)
        have HXF : Hid (SpnAt wr w4.heap.size R1 R2) := Lib.hid (by rw [HL1.out, HL2.out, ← hne]; exact HX.out)
        clear hne
        obtain ⟨a5, c5, a6, c6, a7, c7, a8, c8, ⟨x0, x1, x2, x3, x4, x5⟩, _, hgl, k1, k2, k3, k4⟩ := HXF.out.at
        obtain ⟨w6', hw6, ⟨y0, y1, y2, y3, y4, y5⟩, hsp⟩ := span_stored HSr.out k1 k2 k3 k4
        obtain ⟨_, _, _, _, _, _, _, _, ⟨g0, g1, g2, g3, g4, g5⟩, hfr, hlt9, _⟩ := HSr.out.at
        have f0 := hfr 0
        have f1 := hfr 1
        have f2 := hfr 2
        have f3 := hfr 3
        have f4 := hfr 4
        have f5 := hfr 5
        rw [hw6] at y0 y1 y2 y3 y4 y5 hsp
        have HSP := Lib.hid hsp
        have Y := Lib.hid (And.intro y0 (And.intro y1 (And.intro y2 (And.intro y3 (And.intro y4 y5)))))
        clear hw6 y0 y1 y2 y3 y4 y5 hsp hfr k1 k2 k3 k4
        generalize R1.neg = m1 at *
        generalize R1.num.length = m2 at *
        generalize R1.den.length = m3 at *
        generalize R2.neg = m4 at *
        generalize R2.num.length = m5 at *
        generalize R2.den.length = m6 at *
        go_wp2
        refine bodyPost_ret (v := .tuple #[.agg #[.bool m1, .slice a5 m2 c5, .slice a6 m3 c6, .bool m4, .slice a7 m5 c7, .slice a8 m6 c8], .int .i64 0]) ?_ rfl ⟨⟨_, rfl, HSP.out⟩, ?_⟩
        · simp [results, Tryz.results41, go_sem, Y.out.1, Y.out.2.1, Y.out.2.2.1, Y.out.2.2.2.1, Y.out.2.2.2.2.1, Y.out.2.2.2.2.2]
        · exact (((((HKw.out.store (by omega) _ _).store (by omega) _ _).store (by omega) _ _).store (by omega) _ _).store (by omega) _ _).store (by omega) _ _
  · have HZ1 : Hid (R1 = ⟨false, [], []⟩) := Lib.hid (by rw [HR1.out, bndV, if_neg (by rw [← HQQ.out]; exact h0)]; exact canR_zero)
    have HZ2 : Hid (R2 = ⟨false, [], []⟩) := Lib.hid (by rw [HR2.out, bndV, if_neg (by rw [← HQQ.out]; exact h0)]; exact canR_zero)
    have hqz : ¬ (q : Int) = 0 := by omega
    have hqn : ((q : Int) != 0) = true := by simp; omega
    clear h0
    go_enter Tryz.func41, Tryz.ntmps41
    go_wp2_with fail
    rw [← HW2.out]
    refine (HCK.out _ HK2.out).mono ?_
    rintro e w5 ⟨rfl, hk5⟩
    have hs5 := HS2.out.kept hk5
    have HK5 := Lib.hid (HK2.out.trans hk5)
    obtain ⟨w6, hw6, ⟨y0, y1, y2, y3, y4, y5⟩, hsp⟩ := span_stored (lo := ⟨false, [], []⟩) (hi := ⟨false, [], []⟩) hs5 (WdsAt.nil _) (WdsAt.nil _) (WdsAt.nil _) (WdsAt.nil _)
    obtain ⟨_, _, _, _, _, _, _, _, ⟨g0, g1, g2, g3, g4, g5⟩, hfr, hlt, _⟩ := hs5.at
    have f0 := hfr 0
    have f1 := hfr 1
    have f2 := hfr 2
    have f3 := hfr 3
    have f4 := hfr 4
    have f5 := hfr 5
    rw [hw6] at y0 y1 y2 y3 y4 y5 hsp
    have HSP := Lib.hid hsp
    have Y := Lib.hid (And.intro y0 (And.intro y1 (And.intro y2 (And.intro y3 (And.intro y4 y5)))))
    clear hs5 hk5 hw6 y0 y1 y2 y3 y4 y5 hsp hfr
    go_wp2
    refine bodyPost_ret (v := .tuple #[.agg #[.bool false, .slice none 0 0, .slice none 0 0, .bool false, .slice none 0 0, .slice none 0 0], .int .i64 (q : Nat)]) ?_ rfl ⟨⟨_, rfl, by rw [HZ1.out, HZ2.out]; exact HSP.out⟩, ?_⟩
    · simp [results, Tryz.results41, go_sem, Y.out.1, Y.out.2.1, Y.out.2.2.1, Y.out.2.2.2.1, Y.out.2.2.2.2.1, Y.out.2.2.2.2.2]
    · exact (((((HK5.out.store (by omega) _ _).store (by omega) _ _).store (by omega) _ _).store (by omega) _ _).store (by omega) _ _).store (by omega) _ _
end Go.Proofs.YtbkchheikkbebaaGreatDoor
