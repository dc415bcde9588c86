import Derived.WalkKit
import Derived.WalkSpells
import Derived.WalkLawsBesides
import Derived.Deep.QuietTactic
import Derived.BigQuiet
import Derived.Lib.Hide
import Derived.Shelf.Abstract
import Derived.Deep.RegionWith
import Derived.Laws.AppendOwnNone
import Derived.Lib.AppendZerosOnto
import Derived.Lib.SliceRun
import Derived.Lib.SlicesCompact
import Derived.Shelf.SlSortCmp.NoneTotal
import Derived.Maps.OwnOps
import Derived.Maps.OwnSet
import Derived.Maps.Views
import Derived.Deep.MidRow
import Derived.Deep.RegionHeld3
import Derived.Deep.AppendLies
import Derived.Deep.RegionLaw
import Derived.IntWalk
import Derived.StillTailTactics
import Derived.RegionTactic
import Derived.BigRegion
import Derived.ChangeAlike
import Derived.Sort.LotD2
import Derived.Sort.LotA
import Derived.Shelf.SlSortCmp.PdqK
import Derived.Deep.DeepCutAuto
import Derived.Lib.ItoaNum
import Derived.Deep.LoopGhost
import Derived.ProofKit
import Derived.OpenShut
import Derived.SizedLaws
import Derived.Lib.SmallJoins
import Derived.Deep.Slices
import Derived.Deep.Fields
import Derived.Deep.Strs
import Derived.Carry
import Derived.Lib.BitFns
import Derived.Deep.CutBlock
import Derived.Test.YthiemjodcklejaaGreatDoorDX8
import Derived.Test.YthiemjodcklejaaGreatDoorDX5
import Derived.Test.YthiemjodcklejaaGreatDoorDX2
import Derived.Test.YthiemjodcklejaaGreatDoorDX7
import Derived.Test.YthiemjodcklejaaGreatDoorDX1
/-
  Walks: faultlineref02.Add. Printed by gen_A41.py.
-/
namespace Go.Proofs.YthiemjodcklejaaGreatDoor
open Go.RowKit

set_option maxRecDepth 100000 in
set_option maxHeartbeats 4000000 in
theorem refadd02_same (va vb : Value) (r s : Rw) (w : World) (ha : RatAt w va r) (hb : RatAt w vb s) (hr : r.Short 34359738368) (hs : s.Short 34359738368) (hss : (partsR r).1 = (partsR s).1) : Calls Tryz.prog 118 #[va, vb] w fun e w' => (∃ v', e = .returned v' ∧ RatAt w' v' (canR (ratOf r + ratOf s))) ∧ Kept w w' := by
  have HP1 := Lib.hid (fun W (hk : Kept w W) => refparts_any va r W (ha.kept hk) ⟨Nat.le_trans hr.1 (by omega), Nat.le_trans hr.2 (by omega)⟩)
  have HP2 := Lib.hid (fun W (hk : Kept w W) => refparts_any vb s W (hb.kept hk) ⟨Nat.le_trans hs.1 (by omega), Nat.le_trans hs.2 (by omega)⟩)
  have hok1 := partsR_ok ha.ok
  have hok2 := partsR_ok hb.ok
  have hsh1 := parts_short hr (by omega)
  have hsh2 := parts_short hs (by omega)
  obtain ⟨R, hR⟩ : ∃ R, R = canR (ratOf r + ratOf s) := ⟨_, rfl⟩
  obtain ⟨p, hp⟩ : ∃ p, p = nv (partsR r).2.1 * nv (partsR s).2.2 := ⟨_, rfl⟩
  obtain ⟨q, hq⟩ : ∃ q, q = nv (partsR s).2.1 * nv (partsR r).2.2 := ⟨_, rfl⟩
  obtain ⟨d, hd⟩ : ∃ d, d = nv (partsR r).2.2 * nv (partsR s).2.2 := ⟨_, rfl⟩
  have hlp : (nw p).length ≤ 68719476736 := by rw [hp]; exact Nat.le_trans (nw_mul_len hok1.1 hok2.2.1) (by omega)
  have hlq : (nw q).length ≤ 68719476736 := by rw [hq]; exact Nat.le_trans (nw_mul_len hok2.1 hok1.2.1) (by omega)
  have hld : (nw d).length ≤ 68719476736 := by rw [hd]; exact Nat.le_trans (nw_mul_len hok1.2.1 hok2.2.1) (by omega)
  have hd0 : d ≠ 0 := by rw [hd]; exact Nat.mul_ne_zero hok1.2.2.1 hok2.2.2.1
  have HAD : Hid (∀ W u1 u2, WdsAt W u1 (nw p) → WdsAt W u2 (nw q) → Calls Tryz.prog 184 #[u1, u2] W fun e w' => (∃ v', e = .returned v' ∧ WdsAt w' v' (nw (p + q))) ∧ Kept W w') := Lib.hid fun W u1 u2 k1 k2 => by
    have h := refadd_any u1 u2 _ _ W k1 k2 (by omega) (by omega)
    rw [nv_nw, nv_nw] at h
    exact h
  have HFO : Hid (∀ W u1 u2, WdsAt W u1 (nw (p + q)) → WdsAt W u2 (nw d) → Calls Tryz.prog 183 #[.bool (partsR r).1, u1, u2] W fun e w' => (∃ v, e = .returned (.tuple #[v, .int .i64 0]) ∧ RatAt w' v R) ∧ Kept W w') := Lib.hid fun W u1 u2 k1 k2 => by
    have h := reffrom_any (partsR r).1 u1 u2 _ _ W k1 k2 (Nat.le_trans (nw_add_len hlp hlq) (by omega)) (Nat.le_trans hld (by omega)) (by rw [nv_nw]; exact hd0)
    rw [nv_nw, nv_nw, form_can _ _ _ hd0, hp, hq, hd, ratOf_add ha.ok hb.ok hss, ← hR] at h
    exact h
  have HM1 : Hid (∀ W u1 u2, WdsAt W u1 (partsR r).2.1 → WdsAt W u2 (partsR s).2.2 → Calls Tryz.prog 182 #[u1, u2] W fun e w' => (∃ v', e = .returned v' ∧ WdsAt w' v' (nw p)) ∧ Kept W w') := Lib.hid fun W u1 u2 k1 k2 => by rw [hp]; exact refmul_any u1 u2 _ _ W k1 k2 (by omega) (by omega)
  have HM2 : Hid (∀ W u1 u2, WdsAt W u1 (partsR s).2.1 → WdsAt W u2 (partsR r).2.2 → Calls Tryz.prog 182 #[u1, u2] W fun e w' => (∃ v', e = .returned v' ∧ WdsAt w' v' (nw q)) ∧ Kept W w') := Lib.hid fun W u1 u2 k1 k2 => by rw [hq]; exact refmul_any u1 u2 _ _ W k1 k2 (by omega) (by omega)
  have HM3 : Hid (∀ W u1 u2, WdsAt W u1 (partsR r).2.2 → WdsAt W u2 (partsR s).2.2 → Calls Tryz.prog 182 #[u1, u2] W fun e w' => (∃ v', e = .returned v' ∧ WdsAt w' v' (nw d)) ∧ Kept W w') := Lib.hid fun W u1 u2 k1 k2 => by rw [hd]; exact refmul_any u1 u2 _ _ W k1 k2 (by omega) (by omega)
  rw [← hR]
  obtain ⟨u1, u2, rfl, h1, h2⟩ := ha
  obtain ⟨u3, u4, rfl, h3, h4⟩ := hb
  obtain ⟨a1, c1, rfl⟩ := h1.shape
  obtain ⟨a2, c2, rfl⟩ := h2.shape
  obtain ⟨a3, c3, rfl⟩ := h3.shape
  obtain ⟨a4, c4, rfl⟩ := h4.shape
  obtain ⟨w2, hw2⟩ : ∃ w2, w2 = ((w.alloc (.cells #[.bool r.neg, .slice a1 r.num.length c1, .slice a2 r.den.length c2] 31)).alloc (.cells #[.bool s.neg, .slice a3 s.num.length c3, .slice a4 s.den.length c4] 31)).alloc (.cells #[.bool false, .slice none 0 0, .slice none 0 0] 31) := ⟨_, rfl⟩
  have HM := Lib.hid (res_made2 w (.cells #[.bool r.neg, .slice a1 r.num.length c1, .slice a2 r.den.length c2] 31) (.cells #[.bool s.neg, .slice a3 s.num.length c3, .slice a4 s.den.length c4] 31))
  rw [← hw2] at HM
  have hb2 := RowAt.made (w.alloc (.cells #[.bool r.neg, .slice a1 r.num.length c1, .slice a2 r.den.length c2] 31)) #[.bool s.neg, .slice a3 s.num.length c3, .slice a4 s.den.length c4] 31
  simp only [World.size_alloc] at hb2
  have HB2 : Hid (RowAt w2 (w.heap.size + 1) 31 [.bool s.neg, .slice a3 s.num.length c3, .slice a4 s.den.length c4]) := Lib.hid (by rw [hw2]; exact hb2.kept ((Kept.refl _).alloc _))
  have HW2 := Lib.hid hw2
  generalize nw d = DE at *
  generalize (partsR r).1 = s1 at *
  generalize (partsR s).1 = s2 at *
  generalize (partsR r).2.1 = N at *
  generalize (partsR r).2.2 = D at *
  generalize (partsR s).2.1 = M at *
  generalize (partsR s).2.2 = E at *
  generalize r.num.length = n1 at *
  generalize r.den.length = n2 at *
  generalize s.num.length = n3 at *
  generalize s.den.length = n4 at *
  generalize r.neg = neg1 at *
  generalize s.neg = neg2 at *
  clear hok1 hok2 hsh1 hsh2 hR h1 h2 h3 h4 hr hs hw2 hb2 hp hq hd hlp hlq hld hd0
  have hb : (s1 == s2) = true := by simpa using hss
  clear hss
  go_enter Tryz.func118, Tryz.ntmps118
  go_wp2_with fail
  rw [← HW2.out]
  refine (HP1.out _ HM.out.2.2).mono ?_
  rintro e w3 ⟨⟨u3, u4, rfl, hu3, hu4⟩, hk3⟩
  have HN := Lib.hid hu3
  have HD := Lib.hid hu4
  have HR3 := Lib.hid (HM.out.1.kept hk3)
  have HF3 := Lib.hid (HM.out.2.1.kept hk3)
  have hb3 := HB2.out.kept hk3
  have g0 := hb3.cell (i := 0) (by simp)
  have g1 := hb3.cell (i := 1) (by simp)
  have g2 := hb3.cell (i := 2) (by simp)
  simp only [List.getElem_cons_succ, List.getElem_cons_zero] at g0 g1 g2
  have HK3 := Lib.hid (HM.out.2.2.trans hk3)
  clear hu3 hu4 hk3 hb3
  go_wp2_with fail
  refine (HP2.out _ HK3.out).mono ?_
  rintro e w4 ⟨⟨u5, u6, rfl, hu5, hu6⟩, hk4⟩
  have HN' := Lib.hid (HN.out.kept hk4)
  have HD' := Lib.hid (HD.out.kept hk4)
  have HMM := Lib.hid hu5
  have HEE := Lib.hid hu6
  have HR4 := Lib.hid (HR3.out.kept hk4)
  have HF4 := Lib.hid (HF3.out.kept hk4)
  have HK4 := Lib.hid (HK3.out.trans hk4)
  clear hu5 hu6 hk4 g0 g1 g2
  go_wp2_with fail
  refine (HM1.out _ _ _ HN'.out HEE.out).mono ?_
  rintro e w5 ⟨⟨v5, rfl, hv5⟩, hk5⟩
  have HV5 := Lib.hid hv5
  have HR5 := Lib.hid (HR4.out.kept hk5)
  have HF5 := Lib.hid (HF4.out.kept hk5)
  have HD5 := Lib.hid (HD'.out.kept hk5)
  have HE5 := Lib.hid (HEE.out.kept hk5)
  have HM5 := Lib.hid (HMM.out.kept hk5)
  have HK5 := Lib.hid (HK4.out.trans hk5)
  clear hv5 hk5
  go_wp2_with fail
  refine (HM2.out _ _ _ HM5.out HD5.out).mono ?_
  rintro e w6 ⟨⟨v6, rfl, hv6⟩, hk6⟩
  have HV6 := Lib.hid hv6
  have HV5' := Lib.hid (HV5.out.kept hk6)
  have HR6 := Lib.hid (HR5.out.kept hk6)
  have HF6 := Lib.hid (HF5.out.kept hk6)
  have HD6 := Lib.hid (HD5.out.kept hk6)
  have HE6 := Lib.hid (HE5.out.kept hk6)
  have HK6 := Lib.hid (HK5.out.trans hk6)
  clear hv6 hk6
  go_wp2_with fail
  refine (HM3.out _ _ _ HD6.out HE6.out).mono ?_
  rintro e w7 ⟨⟨v7, rfl, hv7⟩, hk7⟩
  have HVD := Lib.hid hv7
  have HVP := Lib.hid (HV5'.out.kept hk7)
  have HVQ := Lib.hid (HV6.out.kept hk7)
  have HR7 := Lib.hid (HR6.out.kept hk7)
  have HF7 := Lib.hid (HF6.out.kept hk7)
  have HK7 := Lib.hid (HK6.out.trans hk7)
  clear hv7 hk7
  go_wp2_with fail
  refine (HAD.out _ _ _ HVP.out HVQ.out).mono ?_
  rintro e w9 ⟨⟨v9, rfl, hv9⟩, hk9⟩
  have HVD8 := HVD
  have HR8 := HR7
  have HF8 := HF7
  have HK8 := HK7
  have HV9 := Lib.hid hv9
  have HVD9 := Lib.hid (HVD8.out.kept hk9)
  have HR9 := Lib.hid (HR8.out.kept hk9)
  have HF9 := Lib.hid (HF8.out.kept hk9)
  have HK9 := Lib.hid (HK8.out.trans hk9)
  clear hv9 hk9
  go_wp2_with fail
  refine (HFO.out _ _ _ HV9.out HVD9.out).mono ?_
  rintro e w10 ⟨⟨v10, rfl, hv10⟩, hk10⟩
  have hr10 := HR9.out.kept hk10
  have HF10 := Lib.hid (HF9.out.kept hk10)
  have HK10 := Lib.hid (HK9.out.trans hk10)
  obtain ⟨u7, u8, rfl, k7, k8⟩ := hv10
  obtain ⟨a7, c7, rfl⟩ := k7.shape
  obtain ⟨a8, c8, rfl⟩ := k8.shape
  obtain ⟨y0, y1, y2, hra⟩ := rat_stored2 (.cells #[.bool R.neg, .slice a7 R.num.length c7, .slice a8 R.den.length c8] 31) hr10 HF10.out k7 k8
  have hlt := hr10.lt
  have g0 := hr10.cell (i := 0) (by simp)
  have g1 := hr10.cell (i := 1) (by simp)
  have g2 := hr10.cell (i := 2) (by simp)
  have f0 := hr10.free 0
  have f1 := hr10.free 1
  have f2 := hr10.free 2
  have HRA := Lib.hid hra
  have Y0 := Lib.hid y0
  have Y1 := Lib.hid y1
  have Y2 := Lib.hid y2
  clear hra y0 y1 y2 k7 k8 hr10 hk10
  generalize R.num.length = n7 at *
  generalize R.den.length = n8 at *
  go_wp2
  refine bodyPost_ret (v := .agg #[.bool R.neg, .slice a7 n7 c7, .slice a8 n8 c8]) ?_ rfl ⟨⟨_, rfl, HRA.out⟩, ?_⟩
  · simp [results, Tryz.results118, go_sem, Y0.out, Y1.out, Y2.out]
  · exact (((HK10.out.store (by omega) _ _).store (by omega) _ _).store (by omega) _ _).alloc _
set_option maxRecDepth 100000 in
set_option maxHeartbeats 4000000 in
theorem refadd02_ge (va vb : Value) (r s : Rw) (w : World) (ha : RatAt w va r) (hb : RatAt w vb s) (hr : r.Short 34359738368) (hs : s.Short 34359738368) (hss : (partsR r).1 ≠ (partsR s).1) (hle : nv (partsR s).2.1 * nv (partsR r).2.2 ≤ nv (partsR r).2.1 * nv (partsR s).2.2) : Calls Tryz.prog 118 #[va, vb] w fun e w' => (∃ v', e = .returned v' ∧ RatAt w' v' (canR (ratOf r + ratOf s))) ∧ Kept w w' := by
  have HP1 := Lib.hid (fun W (hk : Kept w W) => refparts_any va r W (ha.kept hk) ⟨Nat.le_trans hr.1 (by omega), Nat.le_trans hr.2 (by omega)⟩)
  have HP2 := Lib.hid (fun W (hk : Kept w W) => refparts_any vb s W (hb.kept hk) ⟨Nat.le_trans hs.1 (by omega), Nat.le_trans hs.2 (by omega)⟩)
  have hok1 := partsR_ok ha.ok
  have hok2 := partsR_ok hb.ok
  have hsh1 := parts_short hr (by omega)
  have hsh2 := parts_short hs (by omega)
  obtain ⟨R, hR⟩ : ∃ R, R = canR (ratOf r + ratOf s) := ⟨_, rfl⟩
  obtain ⟨p, hp⟩ : ∃ p, p = nv (partsR r).2.1 * nv (partsR s).2.2 := ⟨_, rfl⟩
  obtain ⟨q, hq⟩ : ∃ q, q = nv (partsR s).2.1 * nv (partsR r).2.2 := ⟨_, rfl⟩
  obtain ⟨d, hd⟩ : ∃ d, d = nv (partsR r).2.2 * nv (partsR s).2.2 := ⟨_, rfl⟩
  have hlp : (nw p).length ≤ 68719476736 := by rw [hp]; exact Nat.le_trans (nw_mul_len hok1.1 hok2.2.1) (by omega)
  have hlq : (nw q).length ≤ 68719476736 := by rw [hq]; exact Nat.le_trans (nw_mul_len hok2.1 hok1.2.1) (by omega)
  have hld : (nw d).length ≤ 68719476736 := by rw [hd]; exact Nat.le_trans (nw_mul_len hok1.2.1 hok2.2.1) (by omega)
  have hd0 : d ≠ 0 := by rw [hd]; exact Nat.mul_ne_zero hok1.2.2.1 hok2.2.2.1
  rw [← hp, ← hq] at hle
  have HCM : Hid (∀ W u1 u2, WdsAt W u1 (nw p) → WdsAt W u2 (nw q) → Calls Tryz.prog 185 #[u1, u2] W fun e w' => e = .returned (.int .i64 (cmpN p q)) ∧ Kept W w') := Lib.hid fun W u1 u2 k1 k2 => by
    have h := refcmp_any u1 u2 _ _ W k1 k2
    rw [nv_nw, nv_nw] at h
    exact h.mono fun _ _ ⟨h1, h2⟩ => ⟨h1, by rw [h2]; exact Kept.refl _⟩
  have HSU : Hid (∀ W u1 u2, WdsAt W u1 (nw p) → WdsAt W u2 (nw q) → Calls Tryz.prog 186 #[u1, u2] W fun e w' => (∃ v', e = .returned (.tuple #[v', .int .i64 0]) ∧ WdsAt w' v' (nw (p - q))) ∧ Kept W w') := Lib.hid fun W u1 u2 k1 k2 => by
    have h := refsub_any u1 u2 _ _ W k1 k2 (by rw [nv_nw, nv_nw]; exact hle)
    rw [nv_nw, nv_nw] at h
    exact h
  obtain ⟨cm, hcm⟩ : ∃ cm, cm = cmpN p q := ⟨_, rfl⟩
  rw [← hcm] at HCM
  have hcm0 : ¬ cm < 0 := by
    rw [hcm]
    rcases Nat.lt_or_ge q p with h | h
    · rw [cmpN_gt h]; omega
    · rw [cmpN_eq (by omega)]; omega
  have HFO : Hid (∀ W u1 u2, WdsAt W u1 (nw (p - q)) → WdsAt W u2 (nw d) → Calls Tryz.prog 183 #[.bool (partsR r).1, u1, u2] W fun e w' => (∃ v, e = .returned (.tuple #[v, .int .i64 0]) ∧ RatAt w' v R) ∧ Kept W w') := Lib.hid fun W u1 u2 k1 k2 => by
    have h := reffrom_any (partsR r).1 u1 u2 _ _ W k1 k2 (Nat.le_trans (nw_mono_len (Nat.sub_le p q)) (by omega)) (Nat.le_trans hld (by omega)) (by rw [nv_nw]; exact hd0)
    rw [nv_nw, nv_nw, form_can _ _ _ hd0, hp, hq, hd, ratOf_sub ha.ok hb.ok hss (by rw [hp, hq] at hle; exact hle), ← hR] at h
    exact h
  have HM1 : Hid (∀ W u1 u2, WdsAt W u1 (partsR r).2.1 → WdsAt W u2 (partsR s).2.2 → Calls Tryz.prog 182 #[u1, u2] W fun e w' => (∃ v', e = .returned v' ∧ WdsAt w' v' (nw p)) ∧ Kept W w') := Lib.hid fun W u1 u2 k1 k2 => by rw [hp]; exact refmul_any u1 u2 _ _ W k1 k2 (by omega) (by omega)
  have HM2 : Hid (∀ W u1 u2, WdsAt W u1 (partsR s).2.1 → WdsAt W u2 (partsR r).2.2 → Calls Tryz.prog 182 #[u1, u2] W fun e w' => (∃ v', e = .returned v' ∧ WdsAt w' v' (nw q)) ∧ Kept W w') := Lib.hid fun W u1 u2 k1 k2 => by rw [hq]; exact refmul_any u1 u2 _ _ W k1 k2 (by omega) (by omega)
  have HM3 : Hid (∀ W u1 u2, WdsAt W u1 (partsR r).2.2 → WdsAt W u2 (partsR s).2.2 → Calls Tryz.prog 182 #[u1, u2] W fun e w' => (∃ v', e = .returned v' ∧ WdsAt w' v' (nw d)) ∧ Kept W w') := Lib.hid fun W u1 u2 k1 k2 => by rw [hd]; exact refmul_any u1 u2 _ _ W k1 k2 (by omega) (by omega)
  rw [← hR]
  obtain ⟨u1, u2, rfl, h1, h2⟩ := ha
  obtain ⟨u3, u4, rfl, h3, h4⟩ := hb
  obtain ⟨a1, c1, rfl⟩ := h1.shape
  obtain ⟨a2, c2, rfl⟩ := h2.shape
  obtain ⟨a3, c3, rfl⟩ := h3.shape
  obtain ⟨a4, c4, rfl⟩ := h4.shape
  obtain ⟨w2, hw2⟩ : ∃ w2, w2 = ((w.alloc (.cells #[.bool r.neg, .slice a1 r.num.length c1, .slice a2 r.den.length c2] 31)).alloc (.cells #[.bool s.neg, .slice a3 s.num.length c3, .slice a4 s.den.length c4] 31)).alloc (.cells #[.bool false, .slice none 0 0, .slice none 0 0] 31) := ⟨_, rfl⟩
  have HM := Lib.hid (res_made2 w (.cells #[.bool r.neg, .slice a1 r.num.length c1, .slice a2 r.den.length c2] 31) (.cells #[.bool s.neg, .slice a3 s.num.length c3, .slice a4 s.den.length c4] 31))
  rw [← hw2] at HM
  have hb2 := RowAt.made (w.alloc (.cells #[.bool r.neg, .slice a1 r.num.length c1, .slice a2 r.den.length c2] 31)) #[.bool s.neg, .slice a3 s.num.length c3, .slice a4 s.den.length c4] 31
  simp only [World.size_alloc] at hb2
  have HB2 : Hid (RowAt w2 (w.heap.size + 1) 31 [.bool s.neg, .slice a3 s.num.length c3, .slice a4 s.den.length c4]) := Lib.hid (by rw [hw2]; exact hb2.kept ((Kept.refl _).alloc _))
  have HW2 := Lib.hid hw2
  generalize nw d = DE at *
  generalize (partsR r).1 = s1 at *
  generalize (partsR s).1 = s2 at *
  generalize (partsR r).2.1 = N at *
  generalize (partsR r).2.2 = D at *
  generalize (partsR s).2.1 = M at *
  generalize (partsR s).2.2 = E at *
  generalize r.num.length = n1 at *
  generalize r.den.length = n2 at *
  generalize s.num.length = n3 at *
  generalize s.den.length = n4 at *
  generalize r.neg = neg1 at *
  generalize s.neg = neg2 at *
  clear hok1 hok2 hsh1 hsh2 hR h1 h2 h3 h4 hr hs hw2 hb2 hp hq hd hlp hlq hld hd0
  have hb : (s1 == s2) = false := by simpa using hss
  clear hss hcm hle
  go_enter Tryz.func118, Tryz.ntmps118
  go_wp2_with fail
  rw [← HW2.out]
  refine (HP1.out _ HM.out.2.2).mono ?_
  rintro e w3 ⟨⟨u3, u4, rfl, hu3, hu4⟩, hk3⟩
  have HN := Lib.hid hu3
  have HD := Lib.hid hu4
  have HR3 := Lib.hid (HM.out.1.kept hk3)
  have HF3 := Lib.hid (HM.out.2.1.kept hk3)
  have hb3 := HB2.out.kept hk3
  have g0 := hb3.cell (i := 0) (by simp)
  have g1 := hb3.cell (i := 1) (by simp)
  have g2 := hb3.cell (i := 2) (by simp)
  simp only [List.getElem_cons_succ, List.getElem_cons_zero] at g0 g1 g2
  have HK3 := Lib.hid (HM.out.2.2.trans hk3)
  clear hu3 hu4 hk3 hb3
  go_wp2_with fail
  refine (HP2.out _ HK3.out).mono ?_
  rintro e w4 ⟨⟨u5, u6, rfl, hu5, hu6⟩, hk4⟩
  have HN' := Lib.hid (HN.out.kept hk4)
  have HD' := Lib.hid (HD.out.kept hk4)
  have HMM := Lib.hid hu5
  have HEE := Lib.hid hu6
  have HR4 := Lib.hid (HR3.out.kept hk4)
  have HF4 := Lib.hid (HF3.out.kept hk4)
  have HK4 := Lib.hid (HK3.out.trans hk4)
  clear hu5 hu6 hk4 g0 g1 g2
  go_wp2_with fail
  refine (HM1.out _ _ _ HN'.out HEE.out).mono ?_
  rintro e w5 ⟨⟨v5, rfl, hv5⟩, hk5⟩
  have HV5 := Lib.hid hv5
  have HR5 := Lib.hid (HR4.out.kept hk5)
  have HF5 := Lib.hid (HF4.out.kept hk5)
  have HD5 := Lib.hid (HD'.out.kept hk5)
  have HE5 := Lib.hid (HEE.out.kept hk5)
  have HM5 := Lib.hid (HMM.out.kept hk5)
  have HK5 := Lib.hid (HK4.out.trans hk5)
  clear hv5 hk5
  go_wp2_with fail
  refine (HM2.out _ _ _ HM5.out HD5.out).mono ?_
  rintro e w6 ⟨⟨v6, rfl, hv6⟩, hk6⟩
  have HV6 := Lib.hid hv6
  have HV5' := Lib.hid (HV5.out.kept hk6)
  have HR6 := Lib.hid (HR5.out.kept hk6)
  have HF6 := Lib.hid (HF5.out.kept hk6)
  have HD6 := Lib.hid (HD5.out.kept hk6)
  have HE6 := Lib.hid (HE5.out.kept hk6)
  have HK6 := Lib.hid (HK5.out.trans hk6)
  clear hv6 hk6
  go_wp2_with fail
  refine (HM3.out _ _ _ HD6.out HE6.out).mono ?_
  rintro e w7 ⟨⟨v7, rfl, hv7⟩, hk7⟩
  have HVD := Lib.hid hv7
  have HVP := Lib.hid (HV5'.out.kept hk7)
  have HVQ := Lib.hid (HV6.out.kept hk7)
  have HR7 := Lib.hid (HR6.out.kept hk7)
  have HF7 := Lib.hid (HF6.out.kept hk7)
  have HK7 := Lib.hid (HK6.out.trans hk7)
  clear hv7 hk7
  go_wp2_with fail
  refine (HCM.out _ _ _ HVP.out HVQ.out).mono ?_
  rintro e w8 ⟨rfl, hk8⟩
  have HVD8 := Lib.hid (HVD.out.kept hk8)
  have HVP8 := Lib.hid (HVP.out.kept hk8)
  have HVQ8 := Lib.hid (HVQ.out.kept hk8)
  have HR8 := Lib.hid (HR7.out.kept hk8)
  have HF8 := Lib.hid (HF7.out.kept hk8)
  have HK8 := Lib.hid (HK7.out.trans hk8)
  clear hk8
  go_wp2_with fail
  refine (HSU.out _ _ _ HVP8.out HVQ8.out).mono ?_
  rintro e w9 ⟨⟨v9, rfl, hv9⟩, hk9⟩
  have HV9 := Lib.hid hv9
  have HVD9 := Lib.hid (HVD8.out.kept hk9)
  have HR9 := Lib.hid (HR8.out.kept hk9)
  have HF9 := Lib.hid (HF8.out.kept hk9)
  have HK9 := Lib.hid (HK8.out.trans hk9)
  clear hv9 hk9
  go_wp2_with fail
  refine (HFO.out _ _ _ HV9.out HVD9.out).mono ?_
  rintro e w10 ⟨⟨v10, rfl, hv10⟩, hk10⟩
  have hr10 := HR9.out.kept hk10
  have HF10 := Lib.hid (HF9.out.kept hk10)
  have HK10 := Lib.hid (HK9.out.trans hk10)
  obtain ⟨u7, u8, rfl, k7, k8⟩ := hv10
  obtain ⟨a7, c7, rfl⟩ := k7.shape
  obtain ⟨a8, c8, rfl⟩ := k8.shape
  obtain ⟨y0, y1, y2, hra⟩ := rat_stored2 (.cells #[.bool R.neg, .slice a7 R.num.length c7, .slice a8 R.den.length c8] 31) hr10 HF10.out k7 k8
  have hlt := hr10.lt
  have g0 := hr10.cell (i := 0) (by simp)
  have g1 := hr10.cell (i := 1) (by simp)
  have g2 := hr10.cell (i := 2) (by simp)
  have f0 := hr10.free 0
  have f1 := hr10.free 1
  have f2 := hr10.free 2
  have HRA := Lib.hid hra
  have Y0 := Lib.hid y0
  have Y1 := Lib.hid y1
  have Y2 := Lib.hid y2
  clear hra y0 y1 y2 k7 k8 hr10 hk10
  generalize R.num.length = n7 at *
  generalize R.den.length = n8 at *
  go_wp2
  refine bodyPost_ret (v := .agg #[.bool R.neg, .slice a7 n7 c7, .slice a8 n8 c8]) ?_ rfl ⟨⟨_, rfl, HRA.out⟩, ?_⟩
  · simp [results, Tryz.results118, go_sem, Y0.out, Y1.out, Y2.out]
  · exact (((HK10.out.store (by omega) _ _).store (by omega) _ _).store (by omega) _ _).alloc _
set_option maxRecDepth 100000 in
set_option maxHeartbeats 4000000 in
theorem refadd02_lt (va vb : Value) (r s : Rw) (w : World) (ha : RatAt w va r) (hb : RatAt w vb s) (hr : r.Short 34359738368) (hs : s.Short 34359738368) (hss : (partsR r).1 ≠ (partsR s).1) (hle : nv (partsR r).2.1 * nv (partsR s).2.2 < nv (partsR s).2.1 * nv (partsR r).2.2) : Calls Tryz.prog 118 #[va, vb] w fun e w' => (∃ v', e = .returned v' ∧ RatAt w' v' (canR (ratOf r + ratOf s))) ∧ Kept w w' := by
  have HP1 := Lib.hid (fun W (hk : Kept w W) => refparts_any va r W (ha.kept hk) ⟨Nat.le_trans hr.1 (by omega), Nat.le_trans hr.2 (by omega)⟩)
  have HP2 := Lib.hid (fun W (hk : Kept w W) => refparts_any vb s W (hb.kept hk) ⟨Nat.le_trans hs.1 (by omega), Nat.le_trans hs.2 (by omega)⟩)
  have hok1 := partsR_ok ha.ok
  have hok2 := partsR_ok hb.ok
  have hsh1 := parts_short hr (by omega)
  have hsh2 := parts_short hs (by omega)
  obtain ⟨R, hR⟩ : ∃ R, R = canR (ratOf r + ratOf s) := ⟨_, rfl⟩
  obtain ⟨p, hp⟩ : ∃ p, p = nv (partsR r).2.1 * nv (partsR s).2.2 := ⟨_, rfl⟩
  obtain ⟨q, hq⟩ : ∃ q, q = nv (partsR s).2.1 * nv (partsR r).2.2 := ⟨_, rfl⟩
  obtain ⟨d, hd⟩ : ∃ d, d = nv (partsR r).2.2 * nv (partsR s).2.2 := ⟨_, rfl⟩
  have hlp : (nw p).length ≤ 68719476736 := by rw [hp]; exact Nat.le_trans (nw_mul_len hok1.1 hok2.2.1) (by omega)
  have hlq : (nw q).length ≤ 68719476736 := by rw [hq]; exact Nat.le_trans (nw_mul_len hok2.1 hok1.2.1) (by omega)
  have hld : (nw d).length ≤ 68719476736 := by rw [hd]; exact Nat.le_trans (nw_mul_len hok1.2.1 hok2.2.1) (by omega)
  have hd0 : d ≠ 0 := by rw [hd]; exact Nat.mul_ne_zero hok1.2.2.1 hok2.2.2.1
  rw [← hp, ← hq] at hle
  have HCM : Hid (∀ W u1 u2, WdsAt W u1 (nw p) → WdsAt W u2 (nw q) → Calls Tryz.prog 185 #[u1, u2] W fun e w' => e = .returned (.int .i64 (cmpN p q)) ∧ Kept W w') := Lib.hid fun W u1 u2 k1 k2 => by
    have h := refcmp_any u1 u2 _ _ W k1 k2
    rw [nv_nw, nv_nw] at h
    exact h.mono fun _ _ ⟨h1, h2⟩ => ⟨h1, by rw [h2]; exact Kept.refl _⟩
  have HSU : Hid (∀ W u1 u2, WdsAt W u1 (nw q) → WdsAt W u2 (nw p) → Calls Tryz.prog 186 #[u1, u2] W fun e w' => (∃ v', e = .returned (.tuple #[v', .int .i64 0]) ∧ WdsAt w' v' (nw (q - p))) ∧ Kept W w') := Lib.hid fun W u1 u2 k1 k2 => by
    have h := refsub_any u1 u2 _ _ W k1 k2 (by rw [nv_nw, nv_nw]; exact Nat.le_of_lt hle)
    rw [nv_nw, nv_nw] at h
    exact h
  obtain ⟨cm, hcm⟩ : ∃ cm, cm = cmpN p q := ⟨_, rfl⟩
  rw [← hcm] at HCM
  have hcm0 : cm < 0 := by
    rw [hcm]
    rw [cmpN_lt hle]; omega
  have HFO : Hid (∀ W u1 u2, WdsAt W u1 (nw (q - p)) → WdsAt W u2 (nw d) → Calls Tryz.prog 183 #[.bool (partsR s).1, u1, u2] W fun e w' => (∃ v, e = .returned (.tuple #[v, .int .i64 0]) ∧ RatAt w' v R) ∧ Kept W w') := Lib.hid fun W u1 u2 k1 k2 => by
    have h := reffrom_any (partsR s).1 u1 u2 _ _ W k1 k2 (Nat.le_trans (nw_mono_len (Nat.sub_le q p)) (by omega)) (Nat.le_trans hld (by omega)) (by rw [nv_nw]; exact hd0)
    rw [nv_nw, nv_nw, form_can _ _ _ hd0, hp, hq, hd, ratOf_sub' ha.ok hb.ok hss (by rw [hp, hq] at hle; exact Nat.le_of_lt hle), ← hR] at h
    exact h
  have HM1 : Hid (∀ W u1 u2, WdsAt W u1 (partsR r).2.1 → WdsAt W u2 (partsR s).2.2 → Calls Tryz.prog 182 #[u1, u2] W fun e w' => (∃ v', e = .returned v' ∧ WdsAt w' v' (nw p)) ∧ Kept W w') := Lib.hid fun W u1 u2 k1 k2 => by rw [hp]; exact refmul_any u1 u2 _ _ W k1 k2 (by omega) (by omega)
  have HM2 : Hid (∀ W u1 u2, WdsAt W u1 (partsR s).2.1 → WdsAt W u2 (partsR r).2.2 → Calls Tryz.prog 182 #[u1, u2] W fun e w' => (∃ v', e = .returned v' ∧ WdsAt w' v' (nw q)) ∧ Kept W w') := Lib.hid fun W u1 u2 k1 k2 => by rw [hq]; exact refmul_any u1 u2 _ _ W k1 k2 (by omega) (by omega)
  have HM3 : Hid (∀ W u1 u2, WdsAt W u1 (partsR r).2.2 → WdsAt W u2 (partsR s).2.2 → Calls Tryz.prog 182 #[u1, u2] W fun e w' => (∃ v', e = .returned v' ∧ WdsAt w' v' (nw d)) ∧ Kept W w') := Lib.hid fun W u1 u2 k1 k2 => by rw [hd]; exact refmul_any u1 u2 _ _ W k1 k2 (by omega) (by omega)
  rw [← hR]
  obtain ⟨u1, u2, rfl, h1, h2⟩ := ha
  obtain ⟨u3, u4, rfl, h3, h4⟩ := hb
  obtain ⟨a1, c1, rfl⟩ := h1.shape
  obtain ⟨a2, c2, rfl⟩ := h2.shape
  obtain ⟨a3, c3, rfl⟩ := h3.shape
  obtain ⟨a4, c4, rfl⟩ := h4.shape
  obtain ⟨w2, hw2⟩ : ∃ w2, w2 = ((w.alloc (.cells #[.bool r.neg, .slice a1 r.num.length c1, .slice a2 r.den.length c2] 31)).alloc (.cells #[.bool s.neg, .slice a3 s.num.length c3, .slice a4 s.den.length c4] 31)).alloc (.cells #[.bool false, .slice none 0 0, .slice none 0 0] 31) := ⟨_, rfl⟩
  have HM := Lib.hid (res_made2 w (.cells #[.bool r.neg, .slice a1 r.num.length c1, .slice a2 r.den.length c2] 31) (.cells #[.bool s.neg, .slice a3 s.num.length c3, .slice a4 s.den.length c4] 31))
  rw [← hw2] at HM
  have hb2 := RowAt.made (w.alloc (.cells #[.bool r.neg, .slice a1 r.num.length c1, .slice a2 r.den.length c2] 31)) #[.bool s.neg, .slice a3 s.num.length c3, .slice a4 s.den.length c4] 31
  simp only [World.size_alloc] at hb2
  have HB2 : Hid (RowAt w2 (w.heap.size + 1) 31 [.bool s.neg, .slice a3 s.num.length c3, .slice a4 s.den.length c4]) := Lib.hid (by rw [hw2]; exact hb2.kept ((Kept.refl _).alloc _))
  have HW2 := Lib.hid hw2
  generalize nw d = DE at *
  generalize (partsR r).1 = s1 at *
  generalize (partsR s).1 = s2 at *
  generalize (partsR r).2.1 = N at *
  generalize (partsR r).2.2 = D at *
  generalize (partsR s).2.1 = M at *
  generalize (partsR s).2.2 = E at *
  generalize r.num.length = n1 at *
  generalize r.den.length = n2 at *
  generalize s.num.length = n3 at *
  generalize s.den.length = n4 at *
  generalize r.neg = neg1 at *
  generalize s.neg = neg2 at *
  clear hok1 hok2 hsh1 hsh2 hR h1 h2 h3 h4 hr hs hw2 hb2 hp hq hd hlp hlq hld hd0
  have hb : (s1 == s2) = false := by simpa using hss
  clear hss hcm hle
  go_enter Tryz.func118, Tryz.ntmps118
  go_wp2_with fail
  rw [← HW2.out]
  refine (HP1.out _ HM.out.2.2).mono ?_
  rintro e w3 ⟨⟨u3, u4, rfl, hu3, hu4⟩, hk3⟩
  have HN := Lib.hid hu3
  have HD := Lib.hid hu4
  have HR3 := Lib.hid (HM.out.1.kept hk3)
  have HF3 := Lib.hid (HM.out.2.1.kept hk3)
  have hb3 := HB2.out.kept hk3
  have g0 := hb3.cell (i := 0) (by simp)
  have g1 := hb3.cell (i := 1) (by simp)
  have g2 := hb3.cell (i := 2) (by simp)
  simp only [List.getElem_cons_succ, List.getElem_cons_zero] at g0 g1 g2
  have HK3 := Lib.hid (HM.out.2.2.trans hk3)
  clear hu3 hu4 hk3 hb3
  go_wp2_with fail
  refine (HP2.out _ HK3.out).mono ?_
  rintro e w4 ⟨⟨u5, u6, rfl, hu5, hu6⟩, hk4⟩
  have HN' := Lib.hid (HN.out.kept hk4)
  have HD' := Lib.hid (HD.out.kept hk4)
  have HMM := Lib.hid hu5
  have HEE := Lib.hid hu6
  have HR4 := Lib.hid (HR3.out.kept hk4)
  have HF4 := Lib.hid (HF3.out.kept hk4)
  have HK4 := Lib.hid (HK3.out.trans hk4)
  clear hu5 hu6 hk4 g0 g1 g2
  go_wp2_with fail
  refine (HM1.out _ _ _ HN'.out HEE.out).mono ?_
  rintro e w5 ⟨⟨v5, rfl, hv5⟩, hk5⟩
  have HV5 := Lib.hid hv5
  have HR5 := Lib.hid (HR4.out.kept hk5)
  have HF5 := Lib.hid (HF4.out.kept hk5)
  have HD5 := Lib.hid (HD'.out.kept hk5)
  have HE5 := Lib.hid (HEE.out.kept hk5)
  have HM5 := Lib.hid (HMM.out.kept hk5)
  have HK5 := Lib.hid (HK4.out.trans hk5)
  clear hv5 hk5
  go_wp2_with fail
  refine (HM2.out _ _ _ HM5.out HD5.out).mono ?_
  rintro e w6 ⟨⟨v6, rfl, hv6⟩, hk6⟩
  have HV6 := Lib.hid hv6
  have HV5' := Lib.hid (HV5.out.kept hk6)
  have HR6 := Lib.hid (HR5.out.kept hk6)
  have HF6 := Lib.hid (HF5.out.kept hk6)
  have HD6 := Lib.hid (HD5.out.kept hk6)
  have HE6 := Lib.hid (HE5.out.kept hk6)
  have HK6 := Lib.hid (HK5.out.trans hk6)
  clear hv6 hk6
  go_wp2_with fail
  refine (HM3.out _ _ _ HD6.out HE6.out).mono ?_
  rintro e w7 ⟨⟨v7, rfl, hv7⟩, hk7⟩
  have HVD := Lib.hid hv7
  have HVP := Lib.hid (HV5'.out.kept hk7)
  have HVQ := Lib.hid (HV6.out.kept hk7)
  have HR7 := Lib.hid (HR6.out.kept hk7)
  have HF7 := Lib.hid (HF6.out.kept hk7)
  have HK7 := Lib.hid (HK6.out.trans hk7)
  clear hv7 hk7
  go_wp2_with fail
  refine (HCM.out _ _ _ HVP.out HVQ.out).mono ?_
  rintro e w8 ⟨rfl, hk8⟩
  have HVD8 := Lib.hid (HVD.out.kept hk8)
  have HVP8 := Lib.hid (HVP.out.kept hk8)
  have HVQ8 := Lib.hid (HVQ.out.kept hk8)
  have HR8 := Lib.hid (HR7.out.kept hk8)
  have HF8 := Lib.hid (HF7.out.kept hk8)
  have HK8 := Lib.hid (HK7.out.trans hk8)
  clear hk8
  go_wp2_with fail
  refine (HSU.out _ _ _ HVQ8.out HVP8.out).mono ?_
  rintro e w9 ⟨⟨v9, rfl, hv9⟩, hk9⟩
  have HV9 := Lib.hid hv9
  have HVD9 := Lib.hid (HVD8.out.kept hk9)
  have HR9 := Lib.hid (HR8.out.kept hk9)
  have HF9 := Lib.hid (HF8.out.kept hk9)
  have HK9 := Lib.hid (HK8.out.trans hk9)
  clear hv9 hk9
  go_wp2_with fail
  refine (HFO.out _ _ _ HV9.out HVD9.out).mono ?_
  rintro e w10 ⟨⟨v10, rfl, hv10⟩, hk10⟩
  have hr10 := HR9.out.kept hk10
  have HF10 := Lib.hid (HF9.out.kept hk10)
  have HK10 := Lib.hid (HK9.out.trans hk10)
  obtain ⟨u7, u8, rfl, k7, k8⟩ := hv10
  obtain ⟨a7, c7, rfl⟩ := k7.shape
  obtain ⟨a8, c8, rfl⟩ := k8.shape
  obtain ⟨y0, y1, y2, hra⟩ := rat_stored2 (.cells #[.bool R.neg, .slice a7 R.num.length c7, .slice a8 R.den.length c8] 31) hr10 HF10.out k7 k8
  have hlt := hr10.lt
  have g0 := hr10.cell (i := 0) (by simp)
  have g1 := hr10.cell (i := 1) (by simp)
  have g2 := hr10.cell (i := 2) (by simp)
  have f0 := hr10.free 0
  have f1 := hr10.free 1
  have f2 := hr10.free 2
  have HRA := Lib.hid hra
  have Y0 := Lib.hid y0
  have Y1 := Lib.hid y1
  have Y2 := Lib.hid y2
  clear hra y0 y1 y2 k7 k8 hr10 hk10
  generalize R.num.length = n7 at *
  generalize R.den.length = n8 at *
  go_wp2
  refine bodyPost_ret (v := .agg #[.bool R.neg, .slice a7 n7 c7, .slice a8 n8 c8]) ?_ rfl ⟨⟨_, rfl, HRA.out⟩, ?_⟩
  · simp [results, Tryz.results118, go_sem, Y0.out, Y1.out, Y2.out]
  · exact (((HK10.out.store (by omega) _ _).store (by omega) _ _).store (by omega) _ _).alloc _
theorem refadd02_any (va vb : Value) (r s : Rw) (w : World) (ha : RatAt w va r) (hb : RatAt w vb s) (hr : r.Short 34359738368) (hs : s.Short 34359738368) : Calls Tryz.prog 118 #[va, vb] w fun e w' => (∃ v', e = .returned v' ∧ RatAt w' v' (canR (ratOf r + ratOf s))) ∧ Kept w w' := by
  by_cases h : (partsR r).1 = (partsR s).1
  · exact refadd02_same va vb r s w ha hb hr hs h
  · rcases Nat.lt_or_ge (nv (partsR r).2.1 * nv (partsR s).2.2) (nv (partsR s).2.1 * nv (partsR r).2.2) with h2 | h2
    · exact refadd02_lt va vb r s w ha hb hr hs h h2
    · exact refadd02_ge va vb r s w ha hb hr hs h h2
end Go.Proofs.YthiemjodcklejaaGreatDoor

/-
  Walks: faultlineref02.Sub, Cmp, Prob.
-/
namespace Go.Proofs.YthiemjodcklejaaGreatDoor
open Go.RowKit

set_option maxRecDepth 100000 in
set_option maxHeartbeats 4000000 in
theorem refsub02_any (va vb : Value) (r s : Rw) (w : World) (ha : RatAt w va r) (hb : RatAt w vb s) (hr : r.Short 34359738368) (hs : s.Short 34359738368) : Calls Tryz.prog 133 #[va, vb] w fun e w' => (∃ v', e = .returned v' ∧ RatAt w' v' (canR (ratOf r - ratOf s))) ∧ Kept w w' := by
  have HNE := Lib.hid (fun W (hk : Kept w W) => refneg_any vb s W (hb.kept hk) ⟨Nat.le_trans hs.1 (by omega), Nat.le_trans hs.2 (by omega)⟩)
  obtain ⟨R, hR⟩ : ∃ R, R = canR (ratOf r - ratOf s) := ⟨_, rfl⟩
  have HAD : Hid (∀ W v, Kept w W → RatAt W v (canR (- ratOf s)) → Calls Tryz.prog 118 #[va, v] W fun e w' => (∃ v', e = .returned v' ∧ RatAt w' v' R) ∧ Kept W w') := Lib.hid fun W v hk hv => by
    have h := refadd02_any va v r _ W (ha.kept hk) hv hr (short_neg hb.ok hs (by omega))
    rw [ratOf_can, ← Rat.sub_eq_add_neg, ← hR] at h
    exact h
  rw [← hR]
  obtain ⟨u1, u2, rfl, h1, h2⟩ := ha
  obtain ⟨u3, u4, rfl, h3, h4⟩ := hb
  obtain ⟨a1, c1, rfl⟩ := h1.shape
  obtain ⟨a2, c2, rfl⟩ := h2.shape
  obtain ⟨a3, c3, rfl⟩ := h3.shape
  obtain ⟨a4, c4, rfl⟩ := h4.shape
  generalize r.num.length = n1 at *
  generalize r.den.length = n2 at *
  generalize s.num.length = n3 at *
  generalize s.den.length = n4 at *
  generalize r.neg = neg1 at *
  generalize s.neg = neg2 at *
  obtain ⟨w2, hw2⟩ : ∃ w2, w2 = ((w.alloc (.cells #[.bool neg1, .slice a1 n1 c1, .slice a2 n2 c2] 31)).alloc (.cells #[.bool neg2, .slice a3 n3 c3, .slice a4 n4 c4] 31)).alloc (.cells #[.bool false, .slice none 0 0, .slice none 0 0] 31) := ⟨_, rfl⟩
  have HM := Lib.hid (res_made2 w (.cells #[.bool neg1, .slice a1 n1 c1, .slice a2 n2 c2] 31) (.cells #[.bool neg2, .slice a3 n3 c3, .slice a4 n4 c4] 31))
  rw [← hw2] at HM
  have ha2 := RowAt.made w #[.bool neg1, .slice a1 n1 c1, .slice a2 n2 c2] 31
  have HA2 : Hid (RowAt w2 w.heap.size 31 [.bool neg1, .slice a1 n1 c1, .slice a2 n2 c2]) := Lib.hid (by rw [hw2]; exact ha2.kept (((Kept.refl _).alloc _).alloc _))
  have hb2 := RowAt.made (w.alloc (.cells #[.bool neg1, .slice a1 n1 c1, .slice a2 n2 c2] 31)) #[.bool neg2, .slice a3 n3 c3, .slice a4 n4 c4] 31
  simp only [World.size_alloc] at hb2
  have HB2 : Hid (RowAt w2 (w.heap.size + 1) 31 [.bool neg2, .slice a3 n3 c3, .slice a4 n4 c4]) := Lib.hid (by rw [hw2]; exact hb2.kept ((Kept.refl _).alloc _))
  have HW2 := Lib.hid hw2
  clear hR h1 h2 h3 h4 hr hs hw2 ha2 hb2
  have p0 := HA2.out.cell (i := 0) (by simp)
  have p1 := HA2.out.cell (i := 1) (by simp)
  have p2 := HA2.out.cell (i := 2) (by simp)
  have g0 := HB2.out.cell (i := 0) (by simp)
  have g1 := HB2.out.cell (i := 1) (by simp)
  have g2 := HB2.out.cell (i := 2) (by simp)
  simp only [List.getElem_cons_succ, List.getElem_cons_zero] at p0 p1 p2 g0 g1 g2
  go_enter Tryz.func133, Tryz.ntmps133
  go_wp2_with fail
  rw [← HW2.out]
  go_region_with (first
    | (go_at_call 140; (with_reducible refine (HNE.out _ HM.out.2.2.drew).mono ?_); rintro e w3 ⟨⟨v3, rfl, hv3⟩, hk3⟩; have hkd := (Kept.refl w2).drew.trans hk3; have x0 := hkd.cell p0; have x1 := hkd.cell p1; have x2 := hkd.cell p2; have HV3 := Lib.hid hv3; have HKD := Lib.hid hkd; have HR3 := Lib.hid (HM.out.1.kept hkd); have HF3 := Lib.hid (HM.out.2.1.kept hkd); clear hv3 hk3 hkd)
    | (go_at_call 118; (with_reducible refine (HAD.out _ _ (HM.out.2.2.trans HKD.out) HV3.out).mono ?_); rintro e w4 ⟨⟨v4, rfl, hv4⟩, hk4⟩; have hr4 := HR3.out.kept hk4; have HR4 := Lib.hid hr4; have HF4 := Lib.hid (HF3.out.kept hk4); have HK4 := Lib.hid ((HM.out.2.2.trans HKD.out).trans hk4); obtain ⟨u5, u6, rfl, k5, k6⟩ := hv4; obtain ⟨a5, c5, rfl⟩ := k5.shape; obtain ⟨a6, c6, rfl⟩ := k6.shape; have K5 := Lib.hid k5; have K6 := Lib.hid k6; have z0 := hr4.cell (i := 0) (by simp); have z1 := hr4.cell (i := 1) (by simp); have z2 := hr4.cell (i := 2) (by simp); have f0 := hr4.free 0; have f1 := hr4.free 1; have f2 := hr4.free 2; clear k5 k6 hr4 hk4))
  all_goals
    obtain ⟨y0, y1, y2, hra⟩ := rat_stored HR4.out HF4.out K5.out K6.out
    generalize R.num.length = n7 at *
    generalize R.den.length = n8 at *
    go_wp2
    refine bodyPost_ret (v := .agg #[.bool R.neg, .slice a5 n7 c5, .slice a6 n8 c6]) ?_ rfl ⟨⟨_, rfl, hra⟩, ?_⟩
    · simp [results, Tryz.results133, go_sem, y0, y1, y2]
    · exact ((HK4.out.store (by omega) _ _).store (by omega) _ _).store (by omega) _ _
set_option maxRecDepth 100000 in
set_option maxHeartbeats 4000000 in
theorem refcmp02_any (va vb : Value) (r s : Rw) (w : World) (ha : RatAt w va r) (hb : RatAt w vb s) (hr : r.Short 34359738368) (hs : s.Short 34359738368) : Calls Tryz.prog 123 #[va, vb] w fun e w' => e = .returned (.int .i64 (sgnR (ratOf r - ratOf s))) ∧ Kept w w' := by
  have HSU := Lib.hid (fun W (hk : Kept w W) => refsub02_any va vb r s W (ha.kept hk) (hb.kept hk) hr hs)
  have hsh : (canR (ratOf r - ratOf s)).Short 137438953472 := by
    have h := short_add ha.ok (canR_ok _) hr (short_neg hb.ok hs (by omega)) (by omega) (by omega)
    rw [ratOf_can, ← Rat.sub_eq_add_neg] at h
    exact ⟨Nat.le_trans h.1 (by omega), Nat.le_trans h.2 (by omega)⟩
  have HSG : Hid (∀ W v, RatAt W v (canR (ratOf r - ratOf s)) → Calls Tryz.prog 122 #[v] W fun e w' => e = .returned (.int .i64 (sgnR (ratOf r - ratOf s))) ∧ Kept W w') := Lib.hid fun W v hv => by
    have h := refsign_any v _ W hv hsh
    rw [ratOf_can] at h
    exact h
  obtain ⟨u1, u2, rfl, h1, h2⟩ := ha
  obtain ⟨u3, u4, rfl, h3, h4⟩ := hb
  obtain ⟨a1, c1, rfl⟩ := h1.shape
  obtain ⟨a2, c2, rfl⟩ := h2.shape
  obtain ⟨a3, c3, rfl⟩ := h3.shape
  obtain ⟨a4, c4, rfl⟩ := h4.shape
  generalize canR (ratOf r - ratOf s) = R at *
  generalize sgnR (ratOf r - ratOf s) = S at *
  generalize r.num.length = n1 at *
  generalize r.den.length = n2 at *
  generalize s.num.length = n3 at *
  generalize s.den.length = n4 at *
  generalize r.neg = neg1 at *
  generalize s.neg = neg2 at *
  have HK0 : Hid (Kept w ((w.alloc (.cells #[.bool neg1, .slice a1 n1 c1, .slice a2 n2 c2] 31)).alloc (.cells #[.bool neg2, .slice a3 n3 c3, .slice a4 n4 c4] 31))) := Lib.hid (((Kept.refl w).alloc _).alloc _)
  clear h1 h2 h3 h4 hr hs hsh
  go_enter Tryz.func123, Tryz.ntmps123
  go_wp2_with fail
  refine (HSU.out _ HK0.out).mono ?_
  rintro e w3 ⟨⟨v3, rfl, hv3⟩, hk3⟩
  have HV3 := Lib.hid hv3
  have HK3 := Lib.hid (HK0.out.trans hk3)
  clear hv3 hk3
  go_wp2_with fail
  refine (HSG.out _ _ HV3.out).mono ?_
  rintro e w4 ⟨rfl, hk4⟩
  have HK4 := Lib.hid (HK3.out.trans hk4)
  clear hk4
  go_wp2
  go_ret
  exact ⟨rfl, HK4.out⟩
theorem one_short : (canR ((1 : Int) : Rat)).Short 1 := by
  have h1 : (nw 1).length ≤ 1 := nw_len_lt.2 (by omega)
  have h := canR_short false (n := 1) (d := 1) (k := 1) (l := 1) (by omega) h1 h1
  rw [show sg false 1 = (1 : Int) from rfl, Rat.mkRat_one] at h
  exact h
set_option maxRecDepth 100000 in
set_option maxHeartbeats 4000000 in
theorem refprob_any (v : Value) (r : Rw) (w : World) (hv : RatAt w v r) (hs : r.Short 34359738368) : Calls Tryz.prog 66 #[v] w fun e w' => e = .returned (.bool (probR r)) ∧ Kept w w' := by
  have HVA := Lib.hid (fun W (hk : Kept w W) => refvalid_any v r W (hv.kept hk) ⟨Nat.le_trans hs.1 (by omega), Nat.le_trans hs.2 (by omega)⟩)
  have HSG := Lib.hid (fun W (hk : Kept w W) => refsign_any v r W (hv.kept hk) ⟨Nat.le_trans hs.1 (by omega), Nat.le_trans hs.2 (by omega)⟩)
  have HOF : Hid (∀ W, Calls Tryz.prog 124 #[.int .i64 1] W fun e w' => (∃ v', e = .returned v' ∧ RatAt w' v' (canR ((1 : Int) : Rat))) ∧ Kept W w') := Lib.hid fun W => refof_any 1 W (by omega)
  have HCM : Hid (∀ W u, Kept w W → RatAt W u (canR ((1 : Int) : Rat)) → Calls Tryz.prog 123 #[v, u] W fun e w' => e = .returned (.int .i64 (sgnR (ratOf r - ((1 : Int) : Rat)))) ∧ Kept W w') := Lib.hid fun W u hk hu => by
    have h := refcmp02_any v u r _ W (hv.kept hk) hu hs ⟨Nat.le_trans one_short.1 (by omega), Nat.le_trans one_short.2 (by omega)⟩
    rw [ratOf_can] at h
    exact h
  rw [prob_sgn hv.ok]
  obtain ⟨neg, num, den⟩ := r
  obtain ⟨u1, u2, rfl, h1, h2⟩ := hv
  simp only at h1 h2
  obtain ⟨a1, c1, rfl⟩ := h1.shape
  obtain ⟨a2, c2, rfl⟩ := h2.shape
  generalize sgnR (ratOf ⟨neg, num, den⟩ - ((1 : Int) : Rat)) = T at *
  generalize sgnR (ratOf ⟨neg, num, den⟩) = S at *
  generalize canR ((1 : Int) : Rat) = ONE at *
  generalize validR ⟨neg, num, den⟩ = vb at *
  simp only at HVA HSG HCM ⊢
  generalize num.length = n1 at *
  generalize den.length = n2 at *
  obtain ⟨w1, hw1⟩ : ∃ w1, w1 = w.alloc (.cells #[.bool neg, .slice a1 n1 c1, .slice a2 n2 c2] 31) := ⟨_, rfl⟩
  have HR : Hid (RowAt w1 w.heap.size 31 [.bool neg, .slice a1 n1 c1, .slice a2 n2 c2]) := Lib.hid (by rw [hw1]; exact RowAt.made w #[.bool neg, .slice a1 n1 c1, .slice a2 n2 c2] 31)
  have HK0 : Hid (Kept w w1) := Lib.hid (by rw [hw1]; exact (Kept.refl w).alloc _)
  have HW1 := Lib.hid hw1
  have q0 := HR.out.cell (i := 0) (by simp)
  have q1 := HR.out.cell (i := 1) (by simp)
  have q2 := HR.out.cell (i := 2) (by simp)
  simp only [List.getElem_cons_succ, List.getElem_cons_zero] at q0 q1 q2
  clear h1 h2 hs hw1
  cases vb with
  | false =>
    go_enter Tryz.func66, Tryz.ntmps66
    go_wp2_with fail
    rw [← HW1.out]
    go_region_with (go_at_call 121; (with_reducible refine (HVA.out _ HK0.out.drew).mono ?_); rintro e w3 ⟨rfl, hk3⟩; have HKD := Lib.hid (HK0.out.drew.trans hk3); clear hk3)
    all_goals
      go_wp2
      go_ret
      exact ⟨by first | rfl | (simp [Act.put]; done) | (simp [go_sem]; done), HKD.out⟩
  | true =>
    by_cases hS : 0 ≤ S
    · have dS : decide (0 ≤ S) = true := by simp; exact hS
      have dS' : decide (S ≥ 0) = true := by simp; exact hS
      go_enter Tryz.func66, Tryz.ntmps66
      go_wp2_with fail
      rw [← HW1.out]
      go_region_with (first
        | (go_at_call 121; (with_reducible refine (HVA.out _ HK0.out.drew).mono ?_); rintro e w3 ⟨rfl, hk3⟩; have hkd := (Kept.refl w1).drew.trans hk3; have x0 := hkd.cell q0; have x1 := hkd.cell q1; have x2 := hkd.cell q2; have HKD := Lib.hid (HK0.out.trans hkd); clear hk3 hkd)
        | (go_at_call 122; (with_reducible refine (HSG.out _ HKD.out).mono ?_); rintro e w4 ⟨rfl, hk4⟩; have y0 := hk4.cell x0; have y1 := hk4.cell x1; have y2 := hk4.cell x2; have HK4 := Lib.hid (HKD.out.trans hk4); clear hk4)
        | (go_at_call 124; (with_reducible refine (HOF.out _).mono ?_); rintro e w5 ⟨⟨v5, rfl, hv5⟩, hk5⟩; have z0 := hk5.cell y0; have z1 := hk5.cell y1; have z2 := hk5.cell y2; have HK5 := Lib.hid (HK4.out.trans hk5); have HV5 := Lib.hid hv5; clear hk5 hv5)
        | (go_at_call 123; (with_reducible refine (HCM.out _ _ HK5.out HV5.out).mono ?_); rintro e w6 ⟨rfl, hk6⟩; have HK6 := Lib.hid (HK5.out.trans hk6); clear hk6))
      all_goals
        go_wp2
        go_ret
        exact ⟨by first | (simp [hS, Act.put]; done) | (simp [hS, go_sem]; done), HK6.out⟩
    · have dS : decide (0 ≤ S) = false := by simp; omega
      have dS' : decide (S ≥ 0) = false := by simp; omega
      go_enter Tryz.func66, Tryz.ntmps66
      go_wp2_with fail
      rw [← HW1.out]
      go_region_with (first
        | (go_at_call 121; (with_reducible refine (HVA.out _ HK0.out.drew).mono ?_); rintro e w3 ⟨rfl, hk3⟩; have hkd := (Kept.refl w1).drew.trans hk3; have x0 := hkd.cell q0; have x1 := hkd.cell q1; have x2 := hkd.cell q2; have HKD := Lib.hid (HK0.out.trans hkd); clear hk3 hkd)
        | (go_at_call 122; (with_reducible refine (HSG.out _ HKD.out).mono ?_); rintro e w4 ⟨rfl, hk4⟩; have HK4 := Lib.hid (HKD.out.trans hk4); clear hk4))
      all_goals
        go_wp2
        go_ret
        exact ⟨by simp [Act.put]; omega, HK4.out⟩
end Go.Proofs.YthiemjodcklejaaGreatDoor

/-
  Lists of fractions in memory; arguments that are read as such.
-/
namespace Go.Proofs.YthiemjodcklejaaGreatDoor
open Go.RowKit Go.ChangeShapes Go.WideShapes Go.ChangeAt Go.Joins Go.Deep

/-- Words that can be read, however many. -/
def WdRaw (w : World) (v : Value) (xs : List Nat) : Prop :=
  ∃ (a : Option Addr) (c : Nat), v = .slice a xs.length c ∧ (xs.length ≤ c ∧ (a = none → c = 0)) ∧ xs.length ≤ 140737488355328 ∧ Wd xs ∧
    ∀ i (_ : i < xs.length), ∃ b o, a = some ⟨b, o, none⟩ ∧ w.cell? ⟨b, o + i, none⟩ = some (.int .u32 ((xs.getD i 0 : Nat) : Int))
theorem WdRaw.kept {w w' : World} {v : Value} {xs : List Nat} (h : WdRaw w v xs) (hk : Kept w w') : WdRaw w' v xs := by
  obtain ⟨a, c, h1, h2, h3, h4, h5⟩ := h
  exact ⟨a, c, h1, h2, h3, h4, fun i hi => let ⟨b, o, h6, h7⟩ := h5 i hi; ⟨b, o, h6, hk.cell h7⟩⟩
theorem WdRaw.small {w : World} {v : Value} {xs : List Nat} (h : WdRaw w v xs) (hl : xs.length ≤ 1099511627776) : WdsAt w v xs := by
  obtain ⟨a, c, h1, h2, _, h4, h5⟩ := h
  exact ⟨a, c, h1, h2, hl, h4, h5⟩
theorem WdRaw.shape {w : World} {v : Value} {xs : List Nat} (h : WdRaw w v xs) : ∃ a c, v = .slice a xs.length c ∧ xs.length ≤ 140737488355328 := by
  obtain ⟨a, c, h1, _, h3, _⟩ := h
  exact ⟨a, c, h1, h3⟩
theorem WdRaw.nil (w : World) : WdRaw w (.slice none 0 0) [] := ⟨none, 0, rfl, ⟨by simp, fun _ => rfl⟩, by simp, Wd.nil, fun i h => by simp at h⟩
/-- A list of fractions. -/
def RatsRaw (w : World) (v : Value) (ps : List Rw) : Prop :=
  ∃ (a : Option Addr) (c : Nat), v = .slice a ps.length c ∧ (ps.length ≤ c ∧ (a = none → c = 0)) ∧ ps.length ≤ 140737488355328 ∧
    ∀ i (h : i < ps.length), ∃ b o u1 u2, a = some ⟨b, o, none⟩ ∧ w.rangeAt b (o + i * 3) [.bool ps[i].neg, u1, u2] ∧ WdRaw w u1 ps[i].num ∧ WdRaw w u2 ps[i].den
def RatsAt (w : World) (v : Value) (ps : List Rw) : Prop :=
  ∃ (a : Option Addr) (c : Nat), v = .slice a ps.length c ∧ (ps.length ≤ c ∧ (a = none → c = 0)) ∧ ps.length ≤ 140737488355328 ∧
    ∀ i (h : i < ps.length), ∃ b o u1 u2, a = some ⟨b, o, none⟩ ∧ w.rangeAt b (o + i * 3) [.bool ps[i].neg, u1, u2] ∧ WdsAt w u1 ps[i].num ∧ WdsAt w u2 ps[i].den
theorem range_same {w w' : World} {b o : Nat} {cs : List Value} (h : w.rangeAt b o cs) (hk : Kept w w') : w'.rangeAt b o cs := fun j v hj => hk.cell (h j v hj)
theorem RatsRaw.kept {w w' : World} {v : Value} {ps : List Rw} (h : RatsRaw w v ps) (hk : Kept w w') : RatsRaw w' v ps := by
  obtain ⟨a, c, h1, h2, h3, h4⟩ := h
  exact ⟨a, c, h1, h2, h3, fun i hi => let ⟨b, o, u1, u2, h5, h6, h7, h8⟩ := h4 i hi; ⟨b, o, u1, u2, h5, range_same h6 hk, h7.kept hk, h8.kept hk⟩⟩
theorem RatsAt.kept {w w' : World} {v : Value} {ps : List Rw} (h : RatsAt w v ps) (hk : Kept w w') : RatsAt w' v ps := by
  obtain ⟨a, c, h1, h2, h3, h4⟩ := h
  exact ⟨a, c, h1, h2, h3, fun i hi => let ⟨b, o, u1, u2, h5, h6, h7, h8⟩ := h4 i hi; ⟨b, o, u1, u2, h5, range_same h6 hk, h7.kept hk, h8.kept hk⟩⟩
theorem RatsRaw.small {w : World} {v : Value} {ps : List Rw} (h : RatsRaw w v ps) (hs : ∀ r ∈ ps, r.Short 1099511627776) : RatsAt w v ps := by
  obtain ⟨a, c, h1, h2, h3, h4⟩ := h
  exact ⟨a, c, h1, h2, h3, fun i hi => let ⟨b, o, u1, u2, h5, h6, h7, h8⟩ := h4 i hi; ⟨b, o, u1, u2, h5, h6, h7.small (hs _ (List.getElem_mem _)).1, h8.small (hs _ (List.getElem_mem _)).2⟩⟩
theorem RatsAt.shape {w : World} {v : Value} {ps : List Rw} (h : RatsAt w v ps) : ∃ a c, v = .slice a ps.length c := by obtain ⟨a, c, h1, _⟩ := h; exact ⟨a, c, h1⟩
theorem RatsAt.get {w : World} {a : Option Addr} {n c : Nat} {ps : List Rw} (h : RatsAt w (.slice a n c) ps) (i : Nat) (hi : i < ps.length) : ∃ b o u1 u2, a = some ⟨b, o, none⟩ ∧ w.rangeAt b (o + i * 3) [.bool (ps.getD i default).neg, u1, u2] ∧ WdsAt w u1 (ps.getD i default).num ∧ WdsAt w u2 (ps.getD i default).den := by
  obtain ⟨a', c', h1, _, _, h4⟩ := h
  injection h1 with e1 e2 e3
  subst e1
  have e : ps.getD i default = ps[i] := by simp [List.getD_eq_getElem?_getD, hi]
  rw [e]
  exact h4 i hi
theorem cells_rat : Tryz.prog.cellsOf 31 = 3 := by kernel_rfl
theorem cells_words : Tryz.prog.cellsOf 29 = 1 := by kernel_rfl
theorem cells_u32 : Tryz.prog.cellsOf 82 = 1 := by kernel_rfl
theorem cells_bool : Tryz.prog.cellsOf 4 = 1 := by kernel_rfl
theorem bytes_rat : Tryz.prog.bytesOf 31 = 56 := by kernel_rfl
theorem bytes_u32 : Tryz.prog.bytesOf 82 = 4 := by kernel_rfl
theorem bounds_u32 {n : Int} (h : (Lit.int .u32 n).wf = true) : 0 ≤ n ∧ n < 4294967296 := by
  simp [Lit.wf, IntKind.min, IntKind.max, IntKind.signed, IntKind.bits] at h
  omega
section
variable {H : Type} {enc : TypeId × Value → H} {W : World} {base : Nat}
/-- Words of a slice, read. -/
theorem words_open {fuel : Nat} {cs : List Value} {x : DataW H × List MemPlace} (hb : ∀ n ∈ x.1.weights Tryz.prog 29, n ≤ reachBytes)
    (h : DataW.trod enc Tryz.prog W base (fun _ => true) true fuel 29 cs = some x) : ∃ u xs, cs = [u] ∧ WdRaw W u xs := by
  rcases open_ints Tryz.underlying29 Tryz.underlying82 cells_u32 h with ⟨rfl, rfl⟩ | ⟨a, len, cap, zs, rfl, _, hl, hm, hz, rfl, hcell, hwz⟩
  · exact ⟨_, [], rfl, WdRaw.nil _⟩
  · simp only [if_true] at hz
    have hbb := hb ((zs.take len).length * 4 + (zs.drop len).length * 4) (by
      simp only [DataW.weights, Tryz.underlying29, bytes_u32, List.mem_cons]
      exact .inl (by simp [lits]; omega))
    simp [reachBytes] at hbb
    have hlen : ((zs.take len).map Int.toNat).length = len := by simp; omega
    refine ⟨_, (zs.take len).map Int.toNat, rfl, some a, cap, by rw [hlen], ⟨by rw [hlen]; exact hl, fun h => by cases h⟩, by rw [hlen]; omega, fun z hz => ?_, fun i hi => ?_⟩
    · obtain ⟨y, hy, rfl⟩ := List.mem_map.1 hz
      have := bounds_u32 (hwz y (List.mem_of_mem_take hy))
      omega
    · rw [hlen] at hi
      have hc := hcell i (by omega)
      obtain ⟨b, o, spot⟩ := a
      have hspot : spot = none := World.cell?_spot (hcell 0 (by omega))
      subst hspot
      refine ⟨b, o, rfl, ?_⟩
      have e : ((((zs.take len).map Int.toNat).getD i 0 : Nat) : Int) = zs.getD i 0 := by
        have h1 : i < zs.length := by omega
        have h2 := bounds_u32 (hwz zs[i] (List.getElem_mem _))
        simp [List.getD_eq_getElem?_getD, h1, hi]
        omega
      rw [e, ← hc]
      congr 1
      by_cases h0 : i = 0
      · subst h0; rfl
      · simp [Addr.add, h0]
set_option maxRecDepth 100000 in
theorem rats_open {fuel : Nat} {cs : List Value} {x : DataW H × List MemPlace} (hb : ∀ n ∈ x.1.weights Tryz.prog 25, n ≤ reachBytes)
    (h : DataW.trod enc Tryz.prog W base (fun _ => true) true fuel 25 cs = some x) : ∃ u ps, cs = [u] ∧ RatsRaw W u ps := by
  rcases open_slice Tryz.underlying25 h with ⟨rfl, rfl⟩ | ⟨a, len, cap, m, n, D, Pl, rfl, _, hl, hm, hmm, rfl, hx⟩
  · exact ⟨_, [], rfl, none, 0, rfl, ⟨by simp, fun _ => rfl⟩, by simp, fun i h => by simp at h⟩
  · simp only [if_true] at hmm
    have hmc := hmm.symm
    subst hmc
    have hbb := hb (cap * 56) (by
      simp only [DataW.weights, Tryz.underlying25, bytes_rat, List.mem_cons]
      refine .inl ?_
      simp; omega)
    simp [reachBytes] at hbb
    have each : ∀ i, i < len → ∃ y : Rw, ∃ b o u1 u2, a = ⟨b, o, none⟩ ∧ W.rangeAt b (o + i * 3) [.bool y.neg, u1, u2] ∧ WdRaw W u1 y.num ∧ WdRaw W u2 y.den := by
      intro i hi
      obtain ⟨cs', hc, ht⟩ := hx i (by omega)
      rw [cells_rat] at hc
      obtain ⟨_, hcl, hat⟩ := World.cells?_some hc
      obtain ⟨y0, y1, y2, n', hy, hlen, g0, g1, g2⟩ := trod_struct3 Tryz.underlying31 ht
      match cs', hcl with
      | [c0, c1, c2], _ =>
        have q0 := hat 0 (by omega)
        have q1 := hat 1 (by omega)
        have q2 := hat 2 (by omega)
        simp only [List.getElem?_cons_zero, List.getElem?_cons_succ] at q0 q1 q2
        have k0 : Tryz.prog.cellsOf 4 = 1 := cells_bool
        have k2 : Tryz.prog.cellsOf 29 = 1 := cells_words
        simp only [k0, k2, List.drop_zero, List.drop_succ_cons, List.take_succ_cons, List.take_zero] at g0 g1 g2
        obtain ⟨ng, e0, hy0⟩ := DataW.trod_bool Tryz.underlying4 g0
        simp at e0
        subst e0
        have hdi : D i = .agg [y0.1, y1.1, y2.1] := by simpa using congrArg Prod.fst hy
        obtain ⟨u1, xs1, e1, hu1⟩ := words_open (fun n hn => hb n (by
          simp only [DataW.weights, Tryz.underlying25, List.mem_cons, List.mem_append]
          refine .inr (.inl (weightsAll_mem (d := D i) (List.mem_map.2 ⟨i, by simpa using hi, rfl⟩) n ?_))
          rw [hdi]
          simp only [DataW.weights, Tryz.underlying31]
          simp only [List.map_cons, DataW.weightsEach, List.mem_append]
          exact .inr (.inl hn))) g1
        obtain ⟨u2, xs2, e2, hu2⟩ := words_open (fun n hn => hb n (by
          simp only [DataW.weights, Tryz.underlying25, List.mem_cons, List.mem_append]
          refine .inr (.inl (weightsAll_mem (d := D i) (List.mem_map.2 ⟨i, by simpa using hi, rfl⟩) n ?_))
          rw [hdi]
          simp only [DataW.weights, Tryz.underlying31]
          simp only [List.map_cons, DataW.weightsEach, List.mem_append]
          exact .inr (.inr (.inl hn)))) g2
        simp at e1 e2
        subst e1 e2
        obtain ⟨b, o, spot⟩ := a
        have hspot : spot = none := by
          obtain ⟨cs0, hc0, _⟩ := hx 0 (by omega)
          rw [cells_rat] at hc0
          obtain ⟨_, hcl0, hat0⟩ := World.cells?_some hc0
          have h1 := hat0 0 (by omega)
          rw [List.getElem?_eq_getElem (by omega)] at h1
          exact World.cell?_spot (a := ⟨b, o, spot⟩) (by simpa [Addr.add] using h1)
        subst hspot
        refine ⟨⟨ng, xs1, xs2⟩, b, o, c1, c2, rfl, ?_, hu1, hu2⟩
        intro j v hj
        match j, hj with
        | 0, hj => simp at hj; subst hj; rw [← q0, addP, addP]
        | 1, hj => simp at hj; subst hj; rw [← q1, addP, addP]
        | 2, hj => simp at hj; subst hj; rw [← q2, addP, addP]
    obtain ⟨g, hg⟩ := choose_lt each
    refine ⟨_, (List.range len).map g, rfl, some a, cap, by simp, ⟨by simp; omega, fun h => by cases h⟩, by simp; omega, fun i hi => ?_⟩
    simp only [List.length_map, List.length_range] at hi
    obtain ⟨b, o, u1, u2, rfl, h1, h2, h3⟩ := hg i hi
    exact ⟨b, o, u1, u2, rfl, by simpa using h1, by simpa using h2, by simpa using h3⟩
end
end Go.Proofs.YthiemjodcklejaaGreatDoor

/-
  Walk: faultlinelaw35.Large. Printed by gen_A44.py.
-/
namespace Go.Proofs.YthiemjodcklejaaGreatDoor
open Go.RowKit

/-- What Large's answer says. -/
def LargeV (u : Value) (ps : List Rw) : Prop := ∃ b, u = .bool b ∧ (b = false → ps.length ≤ 30 ∧ ∀ r ∈ ps, r.Short 3)
set_option maxRecDepth 100000 in
set_option maxHeartbeats 4000000 in
theorem large_any (v : Value) (ps : List Rw) (w : World) (hv : RatsRaw w v ps) :
    Calls Tryz.prog 13 #[v] w fun e w' => (∃ u, e = .returned u ∧ LargeV u ps) ∧ Kept w w' := by
  obtain ⟨a, c, rfl, ⟨hc, _⟩, hl, hx⟩ := hv
  obtain ⟨n, hn⟩ : ∃ n, n = ps.length := ⟨_, rfl⟩
  have hn9 : n ≤ 140737488355328 := by omega
  rw [← hn]
  have HX := Lib.hid hx
  have HN := Lib.hid hn
  clear hx hn hl hc
  go_enter Tryz.func13, Tryz.ntmps13
  go_wp2_with fail
  go_loopg [3, 8] n (fun kx s3 s8 wr => ∃ k t : Nat, k ≤ n ∧ s8 = .int .i64 k ∧ n - k ≤ kx ∧ s3 = .int .i64 t ∧ t ≤ 3 * k ∧ Hid (∀ r ∈ ps.take k, r.Short 3) ∧ Hid (Kept w wr))
  case atStart => exact ⟨0, 0, Nat.zero_le _, rfl, by omega, rfl, by omega, Lib.hid (by simp), Lib.hid (Kept.refl _)⟩
  case round =>
    obtain ⟨k, t, hk, rfl, hkx, rfl, ht, HF, HK⟩ := hrel
    by_cases hlt : k < n
    · have hkl : k < ps.length := by have := HN.out; omega
      obtain ⟨b, o, u1, u2, rfl, hrg, hw1, hw2⟩ := HX.out k hkl
      obtain ⟨r, hr⟩ : ∃ r, r = ps[k] := ⟨_, rfl⟩
      rw [← hr] at hrg hw1 hw2
      have HR := Lib.hid hr
      have HRG0 := range_same hrg HK.out
      have hw2' := hw2.kept HK.out
      obtain ⟨a1, c1, rfl, hl1⟩ := hw1.shape
      obtain ⟨a2, c2, rfl, hl2⟩ := hw2.shape
      have HNX : Hid (r.Short 3 → ∀ x ∈ ps.take (k + 1), x.Short 3) := Lib.hid fun h x hx => by
        rw [List.take_succ_eq_append_getElem hkl] at hx
        rcases List.mem_append.1 hx with hx | hx
        · exact HF.out x hx
        · simp at hx; rw [hx, ← HR.out]; exact h
      have HSH : Hid (r.num.length ≤ 3 → r.den.length ≤ 3 → r.Short 3) := Lib.hid fun h1 h2 => ⟨h1, h2⟩
      obtain ⟨n1, hn1⟩ : ∃ n1, n1 = r.num.length := ⟨_, rfl⟩
      obtain ⟨n2, hn2⟩ : ∃ n2, n2 = r.den.length := ⟨_, rfl⟩
      rw [← hn1] at HRG0 hl1 HSH
      rw [← hn2] at HRG0 hl2 HSH hw2'
      have HRG : Hid (wr.rangeAt b (o + k * 3) [.bool r.neg, .slice a1 n1 c1, .slice a2 n2 c2]) := Lib.hid HRG0
      have HK2 : Hid (Kept w (wr.alloc (.cells #[.bool r.neg, .slice a1 n1 c1, .slice a2 n2 c2] 31))) := Lib.hid (HK.out.alloc _)
      have HW2 := Lib.hid hw2'
      have HN2 := Lib.hid hn2
      have hkn : (k : Int) < (n : Int) := by omega
      clear hr hrg hw1 hw2 hw2' HRG0 hn1 hn2
      by_cases h1 : 3 < n1
      · have g1 : (3 : Int) < (n1 : Int) := by omega
        have d1 : decide ((3 : Int) < (n1 : Int)) = true := decide_eq_true g1
        go_wp2_with (with_reducible refine wpList_load_mid rfl 31 _ rfl b (o + k * 3) rfl _ _ HRG.out Tryz.underlying31 rfl (by kernel_rfl) ?_)
        go_ret
        exact ⟨⟨_, rfl, true, rfl, fun h => by cases h⟩, HK2.out⟩
      · have g1 : ¬ (3 : Int) < (n1 : Int) := by omega
        have d1 : decide ((3 : Int) < (n1 : Int)) = false := decide_eq_false g1
        by_cases h2 : 3 < n2
        · have g2 : (3 : Int) < (n2 : Int) := by omega
          have d2 : decide ((3 : Int) < (n2 : Int)) = true := decide_eq_true g2
          go_wp2_with (with_reducible refine wpList_load_mid rfl 31 _ rfl b (o + k * 3) rfl _ _ HRG.out Tryz.underlying31 rfl (by kernel_rfl) ?_)
          go_ret
          exact ⟨⟨_, rfl, true, rfl, fun h => by cases h⟩, HK2.out⟩
        · have g2 : ¬ (3 : Int) < (n2 : Int) := by omega
          have d2 : decide ((3 : Int) < (n2 : Int)) = false := decide_eq_false g2
          have HS3 := Lib.hid (HNX.out (HSH.out (by omega) (by omega)))
          obtain ⟨mx, hmx⟩ : ∃ mx, mx = max n1 n2 := ⟨_, rfl⟩
          have emx : max (n1 : Int) (n2 : Int) = (mx : Int) := by omega
          obtain ⟨t2, ht2⟩ : ∃ t2, t2 = t + mx := ⟨_, rfl⟩
          have et2 : (t : Int) + (mx : Int) = (t2 : Int) := by omega
          have ht29 : t2 ≤ 3 * (k + 1) := by omega
          have ht28 : t2 ≤ 422212465065987 := by omega
          clear hmx ht2
          by_cases h3 : 1 < n1
          · have g3 : (1 : Int) < (n1 : Int) := by omega
            have d3 : decide ((1 : Int) < (n1 : Int)) = true := decide_eq_true g3
            go_wp2_with (with_reducible refine wpList_load_mid rfl 31 _ rfl b (o + k * 3) rfl _ _ HRG.out Tryz.underlying31 rfl (by kernel_rfl) ?_)
            go_roundg (n - (k + 1))
            case measure => omega
            case rel => exact ⟨k + 1, t2, by omega, by go_num, Nat.le_refl _, rfl, ht29, HS3, HK2⟩
          · have g3 : ¬ (1 : Int) < (n1 : Int) := by omega
            have d3 : decide ((1 : Int) < (n1 : Int)) = false := decide_eq_false g3
            by_cases h4 : 1 < n2
            · have g4 : (1 : Int) < (n2 : Int) := by omega
              have d4 : decide ((1 : Int) < (n2 : Int)) = true := decide_eq_true g4
              go_wp2_with (with_reducible refine wpList_load_mid rfl 31 _ rfl b (o + k * 3) rfl _ _ HRG.out Tryz.underlying31 rfl (by kernel_rfl) ?_)
              go_roundg (n - (k + 1))
              case measure => omega
              case rel => exact ⟨k + 1, t2, by omega, by go_num, Nat.le_refl _, rfl, ht29, HS3, HK2⟩
            · have g4 : ¬ (1 : Int) < (n2 : Int) := by omega
              have d4 : decide ((1 : Int) < (n2 : Int)) = false := decide_eq_false g4
              by_cases h5 : n2 = 1
              · have e5 : ((n2 : Int) == 1) = true := by simp; omega
                have hden : 0 < r.den.length := by have := HN2.out; omega
                obtain ⟨a2', c2', h6, h7, _, _, h8⟩ := HW2.out
                injection h6 with h9 h10 h11
                obtain ⟨b2, o2, h12, h13⟩ := h8 0 hden
                rw [← h9] at h12
                subst h12
                obtain ⟨y, hy⟩ : ∃ y, y = r.den.getD 0 0 := ⟨_, rfl⟩
                rw [← hy, Nat.add_zero] at h13
                have h14 := ((Kept.refl wr).alloc (.cells #[.bool r.neg, .slice a1 n1 c1, .slice (some ⟨b2, o2, none⟩) n2 c2] 31)).cell h13
                have q0 : (0 : Int) < (n2 : Int) := by omega
                have q0' : 0 < n2 := by omega
                clear h7 h8 h9 h10 h11 h13 hy h5
                by_cases h15 : 1024 ≤ y
                · have d5 : decide ((1024 : Int) ≤ (y : Int)) = true := decide_eq_true (by omega)
                  have g5 : (1024 : Int) ≤ (y : Int) := by omega
                  go_wp2_with (with_reducible refine wpList_load_mid rfl 31 _ rfl b (o + k * 3) rfl _ _ HRG.out Tryz.underlying31 rfl (by kernel_rfl) ?_)
                  go_roundg (n - (k + 1))
                  case measure => omega
                  case rel => exact ⟨k + 1, t2, by omega, by go_num, Nat.le_refl _, rfl, ht29, HS3, HK2⟩
                · have d5 : decide ((1024 : Int) ≤ (y : Int)) = false := decide_eq_false (by omega)
                  have g5 : ¬ (1024 : Int) ≤ (y : Int) := by omega
                  go_wp2_with (with_reducible refine wpList_load_mid rfl 31 _ rfl b (o + k * 3) rfl _ _ HRG.out Tryz.underlying31 rfl (by kernel_rfl) ?_)
                  go_roundg (n - (k + 1))
                  case measure => omega
                  case rel => exact ⟨k + 1, t, by omega, by go_num, Nat.le_refl _, rfl, by omega, HS3, HK2⟩
              · have e5 : ((n2 : Int) == 1) = false := by simp; omega
                go_wp2_with (with_reducible refine wpList_load_mid rfl 31 _ rfl b (o + k * 3) rfl _ _ HRG.out Tryz.underlying31 rfl (by kernel_rfl) ?_)
                go_roundg (n - (k + 1))
                case measure => omega
                case rel => exact ⟨k + 1, t, by omega, by go_num, Nat.le_refl _, rfl, by omega, HS3, HK2⟩
    · have hke : k = n := by omega
      have HALL : Hid (∀ r ∈ ps, r.Short 3) := Lib.hid (by have := HF.out; rwa [List.take_of_length_le (by have := HN.out; omega)] at this)
      have hkn : ¬ (k : Int) < (n : Int) := by omega
      by_cases h30 : 30 < n
      · have g30 : (30 : Int) < (n : Int) := by omega
        have d30 : decide ((30 : Int) < (n : Int)) = true := decide_eq_true g30
        go_wp2
        go_ret
        exact ⟨⟨_, rfl, true, rfl, fun h => by cases h⟩, HK.out⟩
      · have g30 : ¬ (30 : Int) < (n : Int) := by omega
        have d30 : decide ((30 : Int) < (n : Int)) = false := decide_eq_false g30
        go_wp2
        go_ret
        exact ⟨⟨_, rfl, _, rfl, fun _ => ⟨by have := HN.out; omega, HALL.out⟩⟩, HK.out⟩
end Go.Proofs.YthiemjodcklejaaGreatDoor

/-
  Walks: slices.ContainsFunc over fractions; truncate.bad, faultlineref35.Bad.
-/
namespace Go.Proofs.YthiemjodcklejaaGreatDoor
open Go.RowKit

def DecidesQ (g : Nat) (lb : Array Value) (p : Rw → Bool) (w : World) : Prop :=
  ∀ (W : World) (u : Value) (x : Rw), Kept w W → RatAt W u x → x.Short 34359738368 → Calls Tryz.prog g (#[u] ++ lb) W fun e W' => e = .returned (.bool (p x)) ∧ Kept W W'
/-- Whether one of some fractions is no probability. -/
def badR (ps : List Rw) : Bool := ps.any fun r => !probR r
end Go.Proofs.YthiemjodcklejaaGreatDoor

/-
  Elements of sets: sets.Has, Greatest and the reference's Has, Elements, Greatest.
-/
namespace Go.Proofs.YthiemjodcklejaaGreatDoor
open Go.RowKit

/-- The elements of a set, ascending. -/
def elemsK (s : Nat) : List Nat := (List.range 24).filter fun i => s.testBit i
/-- The greatest element, or -1. -/
def gtK (s : Nat) : Int := (Lib.bitLen s : Int) - 1
theorem elems_lt {s i : Nat} (h : i ∈ elemsK s) : i < 24 ∧ s.testBit i = true := by
  have := List.mem_filter.1 h
  exact ⟨by simpa using this.1, this.2⟩
theorem bitLen_topA {x n : Nat} (h1 : 2 ^ n ≤ x) (h2 : x < 2 ^ (n + 1)) (hn : n < 60) : Lib.bitLen x = n + 1 := by
  have h64 : x < 2 ^ 64 := Nat.lt_of_lt_of_le h2 (Nat.pow_le_pow_right (by omega) (by omega))
  have h3 := Lib.bitLen_le x (n + 1) (by omega) h2
  have h4 := bitLen_lt h64
  have h5 : n < Lib.bitLen x := (Nat.pow_lt_pow_iff_right (by omega : 1 < 2)).1 (Nat.lt_of_le_of_lt h1 h4)
  omega
theorem bit_high {s i : Nat} (hs : s < 16777216) (hi : 24 ≤ i) : s.testBit i = false := by
  cases h : s.testBit i with
  | false => rfl
  | true =>
    exfalso
    have h1 : 2 ^ i ≤ s := Nat.ge_two_pow_of_testBit h
    have h2 : 2 ^ 24 ≤ 2 ^ i := Nat.pow_le_pow_right (by omega) hi
    have e : (2 : Nat) ^ 24 = 16777216 := rfl
    omega
set_option maxRecDepth 100000 in
theorem hasS_any (c i : Nat) (hc : c < 16777216) (w : World) : Calls Tryz.prog 132 #[.int .i64 c, .int .i64 i] w fun e w' => e = .returned (.bool (c.testBit i)) ∧ w' = w := by
  by_cases hi : i < 24
  · have e := bit_val c i hc
    have h1 : (0 : Int) ≤ (i : Int) := by omega
    have h2 : (i : Int) < 24 := by omega
    have E := Lib.hid e
    clear e hc
    go_enter Tryz.func132, Tryz.ntmps132
    go_wp2
    go_ret
    exact ⟨by rw [← E.out]; rfl, rfl⟩
  · rw [bit_high hc (by omega)]
    have h1 : (0 : Int) ≤ (i : Int) := by omega
    have h2 : ¬ (i : Int) < 24 := by omega
    have d2 : decide ((i : Int) < 24) = false := decide_eq_false h2
    clear hc hi
    go_enter Tryz.func132, Tryz.ntmps132
    go_wp2
    go_ret
    exact ⟨by first | rfl | simp, rfl⟩
set_option maxRecDepth 100000 in
theorem great_any (s : Nat) (hs : s < 16777216) (w : World) : Calls Tryz.prog 109 #[.int .i64 s] w fun e w' => e = .returned (.int .i64 (gtK s)) ∧ w' = w := by
  have HC : Hid (∀ W, Calls Tryz.prog 152 #[.int .i64 s] W fun e w' => e = .returned (.int .i64 s) ∧ W = w') := Lib.hid fun W => cutk_any (by unfold Mk; omega) W
  have ew : IntKind.u64.wrap (s : Int) = (s : Int) := by rw [IntKind.wrap_u64]; omega
  obtain ⟨z, hz⟩ : ∃ z, z = Lib.bitLen s := ⟨_, rfl⟩
  have hz9 : z ≤ 24 := by rw [hz]; exact Lib.bitLen_le s 24 (by omega) (by rw [show (2 : Nat) ^ 24 = 16777216 from rfl]; exact hs)
  have HL : Hid (∀ W, Calls Tryz.prog 149 #[.int .u64 (s : Int)] W fun e w' => e = .returned (.int .i64 z) ∧ w' = W) := Lib.hid fun W => by
    have h := Tryz.bits_Len (s : Int) W (by omega) (by omega)
    rw [Int.toNat_natCast, ← hz] at h
    exact h
  have hg : gtK s = (z : Int) - 1 := by unfold gtK; rw [hz]
  rw [hg]
  clear hz hg hs
  go_enter Tryz.func109, Tryz.ntmps109
  go_wp2_with (first | (go_at_call 152; refine (HC.out _).mono ?_; rintro e w2 ⟨rfl, rfl⟩) | (go_at_call 149; refine (HL.out _).mono ?_; rintro e w2 ⟨rfl, rfl⟩))
  go_ret
  exact ⟨rfl, rfl⟩
theorem elems_step (s k : Nat) : ((List.range (k + 1)).filter fun i => s.testBit i) = ((List.range k).filter fun i => s.testBit i) ++ (if s.testBit k then [k] else []) := by
  rw [List.range_succ, List.filter_append]
  congr 1
  cases h : s.testBit k <;> simp [h]
theorem elems_len (s n : Nat) : ((List.range n).filter fun i => s.testBit i).length ≤ n := by
  have := List.length_filter_le (fun i => s.testBit i) (List.range n)
  simpa using this
end Go.Proofs.YthiemjodcklejaaGreatDoor

/-
  Walks: bad of disjoint, esary and the reference: a fraction is no probability.
-/
namespace Go.Proofs.YthiemjodcklejaaGreatDoor
open Go.RowKit

set_option maxRecDepth 100000 in
set_option maxHeartbeats 2000000 in
theorem dbad_any (v : Value) (ps : List Rw) (w : World) (hv : RatsAt w v ps) (hs : ∀ x ∈ ps, x.Short 34359738368) : Calls Tryz.prog 55 #[v] w fun e w' => e = .returned (.bool (badR ps)) ∧ Kept w w' := by
  obtain ⟨a, c, rfl, ⟨hc, _⟩, hl, hx⟩ := hv
  obtain ⟨n, hn⟩ : ∃ n, n = ps.length := ⟨_, rfl⟩
  have hbig : n ≤ 140737488355328 := by omega
  rw [← hn]
  have HX := Lib.hid hx
  have HN := Lib.hid hn
  have HLT := Lib.hid hs
  clear hx hn hl hc hs
  go_enter Tryz.func55, Tryz.ntmps55
  go_wp2_with fail
  go_loopg [7] n (fun kx i wr => ∃ k : Nat, k ≤ n ∧ i = .int .i64 k ∧ n - k ≤ kx ∧ Hid (∀ x ∈ ps.take k, probR x = true) ∧ Hid (Kept w wr))
  case atStart => exact ⟨0, Nat.zero_le _, rfl, by omega, Lib.hid (by simp), Lib.hid (Kept.refl _)⟩
  case round =>
    obtain ⟨k, hk, rfl, hkx, HF, HK⟩ := hrel
    by_cases hlt : k < n
    · have hkl : k < ps.length := by have := HN.out; omega
      obtain ⟨b, o, u1, u2, rfl, hrg, hw1, hw2⟩ := HX.out k hkl
      have hrg2 := range_same hrg HK.out
      have hxl := HLT.out ps[k] (List.getElem_mem _)
      obtain ⟨x, hxx⟩ : ∃ x, x = ps[k] := ⟨_, rfl⟩
      rw [← hxx] at hrg2 hxl hw1 hw2
      have HXX := Lib.hid hxx
      obtain ⟨a1, c1, rfl⟩ := hw1.shape
      obtain ⟨a2, c2, rfl⟩ := hw2.shape
      have HC : Hid (∀ W, Kept w W → Calls Tryz.prog 29 #[.agg #[.bool x.neg, .slice a1 x.num.length c1, .slice a2 x.den.length c2]] W fun e W' => e = .returned (.bool (probR x)) ∧ Kept W W') := Lib.hid fun W hk => rprob_any _ x W ⟨_, _, rfl, hw1.kept hk, hw2.kept hk⟩ ⟨Nat.le_trans hxl.1 (by omega), Nat.le_trans hxl.2 (by omega)⟩
      generalize x.num.length = n1 at *
      generalize x.den.length = n2 at *
      have HRG : Hid (wr.rangeAt b (o + k * 3) [.bool x.neg, .slice a1 n1 c1, .slice a2 n2 c2]) := Lib.hid hrg2
      have hkn : (k : Int) < (n : Int) := by omega
      clear hrg hrg2 hxx hxl hw1 hw2
      cases hq : probR x with
      | false =>
        rw [hq] at HC
        have HQ := Lib.hid hq
        clear hq
        go_wp2_with (first | (with_reducible refine wpList_load_mid rfl 31 _ rfl b (o + k * 3) rfl _ _ HRG.out Tryz.underlying31 rfl (by kernel_rfl) ?_) | (go_at_call 29; refine (HC.out _ (HK.out.alloc _)).mono ?_; rintro e w' ⟨rfl, hK2⟩))
        go_ret
        have hb : badR ps = true := List.any_eq_true.2 ⟨x, by rw [HXX.out]; exact List.getElem_mem _, by rw [HQ.out]; rfl⟩
        exact ⟨by rw [hb]; rfl, (HK.out.alloc _).trans hK2⟩
      | true =>
        rw [hq] at HC
        have HQ := Lib.hid hq
        clear hq
        go_wp2_with (first | (with_reducible refine wpList_load_mid rfl 31 _ rfl b (o + k * 3) rfl _ _ HRG.out Tryz.underlying31 rfl (by kernel_rfl) ?_) | (go_at_call 29; refine (HC.out _ (HK.out.alloc _)).mono ?_; rintro e w' ⟨rfl, hK2⟩))
        go_roundg (n - (k + 1))
        case measure => omega
        case rel =>
          refine ⟨k + 1, by omega, by go_num, Nat.le_refl _, Lib.hid ?_, Lib.hid ((HK.out.alloc _).trans hK2)⟩
          intro y hy
          rw [List.take_succ_eq_append_getElem hkl] at hy
          rcases List.mem_append.1 hy with hy | hy
          · exact HF.out y hy
          · simp at hy; rw [hy, ← HXX.out]; exact HQ.out
    · have hh := HF.out
      rw [List.take_of_length_le (by have := HN.out; omega)] at hh
      have HB : Hid (badR ps = false) := Lib.hid (by unfold badR; rw [List.any_eq_false]; intro y hy; simp [hh y hy])
      have hkn : ¬ (k : Int) < (n : Int) := by omega
      clear hh
      go_wp2
      go_ret
      exact ⟨by rw [HB.out]; rfl, HK.out⟩
set_option maxRecDepth 100000 in
set_option maxHeartbeats 2000000 in
theorem r38bad_any (v : Value) (ps : List Rw) (w : World) (hv : RatsAt w v ps) (hs : ∀ x ∈ ps, x.Short 34359738368) : Calls Tryz.prog 22 #[v] w fun e w' => e = .returned (.bool (badR ps)) ∧ Kept w w' := by
  obtain ⟨a, c, rfl, ⟨hc, _⟩, hl, hx⟩ := hv
  obtain ⟨n, hn⟩ : ∃ n, n = ps.length := ⟨_, rfl⟩
  have hbig : n ≤ 140737488355328 := by omega
  rw [← hn]
  have HX := Lib.hid hx
  have HN := Lib.hid hn
  have HLT := Lib.hid hs
  clear hx hn hl hc hs
  go_enter Tryz.func22, Tryz.ntmps22
  go_wp2_with fail
  go_loopg [7] n (fun kx i wr => ∃ k : Nat, k ≤ n ∧ i = .int .i64 k ∧ n - k ≤ kx ∧ Hid (∀ x ∈ ps.take k, probR x = true) ∧ Hid (Kept w wr))
  case atStart => exact ⟨0, Nat.zero_le _, rfl, by omega, Lib.hid (by simp), Lib.hid (Kept.refl _)⟩
  case round =>
    obtain ⟨k, hk, rfl, hkx, HF, HK⟩ := hrel
    by_cases hlt : k < n
    · have hkl : k < ps.length := by have := HN.out; omega
      obtain ⟨b, o, u1, u2, rfl, hrg, hw1, hw2⟩ := HX.out k hkl
      have hrg2 := range_same hrg HK.out
      have hxl := HLT.out ps[k] (List.getElem_mem _)
      obtain ⟨x, hxx⟩ : ∃ x, x = ps[k] := ⟨_, rfl⟩
      rw [← hxx] at hrg2 hxl hw1 hw2
      have HXX := Lib.hid hxx
      obtain ⟨a1, c1, rfl⟩ := hw1.shape
      obtain ⟨a2, c2, rfl⟩ := hw2.shape
      have HC : Hid (∀ W, Kept w W → Calls Tryz.prog 66 #[.agg #[.bool x.neg, .slice a1 x.num.length c1, .slice a2 x.den.length c2]] W fun e W' => e = .returned (.bool (probR x)) ∧ Kept W W') := Lib.hid fun W hk => refprob_any _ x W ⟨_, _, rfl, hw1.kept hk, hw2.kept hk⟩ ⟨Nat.le_trans hxl.1 (by omega), Nat.le_trans hxl.2 (by omega)⟩
      generalize x.num.length = n1 at *
      generalize x.den.length = n2 at *
      have HRG : Hid (wr.rangeAt b (o + k * 3) [.bool x.neg, .slice a1 n1 c1, .slice a2 n2 c2]) := Lib.hid hrg2
      have hkn : (k : Int) < (n : Int) := by omega
      clear hrg hrg2 hxx hxl hw1 hw2
      cases hq : probR x with
      | false =>
        rw [hq] at HC
        have HQ := Lib.hid hq
        clear hq
        go_wp2_with (first | (with_reducible refine wpList_load_mid rfl 31 _ rfl b (o + k * 3) rfl _ _ HRG.out Tryz.underlying31 rfl (by kernel_rfl) ?_) | (go_at_call 66; refine (HC.out _ (HK.out.alloc _)).mono ?_; rintro e w' ⟨rfl, hK2⟩))
        go_ret
        have hb : badR ps = true := List.any_eq_true.2 ⟨x, by rw [HXX.out]; exact List.getElem_mem _, by rw [HQ.out]; rfl⟩
        exact ⟨by rw [hb]; rfl, (HK.out.alloc _).trans hK2⟩
      | true =>
        rw [hq] at HC
        have HQ := Lib.hid hq
        clear hq
        go_wp2_with (first | (with_reducible refine wpList_load_mid rfl 31 _ rfl b (o + k * 3) rfl _ _ HRG.out Tryz.underlying31 rfl (by kernel_rfl) ?_) | (go_at_call 66; refine (HC.out _ (HK.out.alloc _)).mono ?_; rintro e w' ⟨rfl, hK2⟩))
        go_roundg (n - (k + 1))
        case measure => omega
        case rel =>
          refine ⟨k + 1, by omega, by go_num, Nat.le_refl _, Lib.hid ?_, Lib.hid ((HK.out.alloc _).trans hK2)⟩
          intro y hy
          rw [List.take_succ_eq_append_getElem hkl] at hy
          rcases List.mem_append.1 hy with hy | hy
          · exact HF.out y hy
          · simp at hy; rw [hy, ← HXX.out]; exact HQ.out
    · have hh := HF.out
      rw [List.take_of_length_le (by have := HN.out; omega)] at hh
      have HB : Hid (badR ps = false) := Lib.hid (by unfold badR; rw [List.any_eq_false]; intro y hy; simp [hh y hy])
      have hkn : ¬ (k : Int) < (n : Int) := by omega
      clear hh
      go_wp2
      go_ret
      exact ⟨by rw [HB.out]; rfl, HK.out⟩
end Go.Proofs.YthiemjodcklejaaGreatDoor

/-
  Plain: disjoint cubes of a family; how many of them a state lies in.
-/
namespace Go.Proofs.YthiemjodcklejaaGreatDoor
open Go.RowKit

/-- The cubes of a cube without the states with all of some events. -/
def lessL (y n : Nat) : List Nat → List (Nat × Nat)
  | [] => []
  | i :: is => (y, n ||| 2 ^ i) :: lessL (y ||| 2 ^ i) n is
def lessK (c : Nat × Nat) (s : Nat) : List (Nat × Nat) := if s &&& c.2 ≠ 0 then [c] else lessL c.1 c.2 (elemsK (sdiff s c.1))
def withK (l : List (Nat × Nat)) (s : Nat) : List (Nat × Nat) := l.flatMap fun c => lessK c s
def ownC (most : Nat) : List Nat → List (Nat × Nat) → Option (List (Nat × Nat))
  | [], l => some l
  | b :: bs, l => if most < (withK l b).length then none else ownC most bs (withK l b)
def cubesC (pre : List Nat) (out : List (Nat × Nat)) : List Nat → Option (List (Nat × Nat))
  | [] => some out
  | s :: r => match ownC (1024 - out.length) pre [(s, 0)] with
    | none => none
    | some l => cubesC (pre ++ [s]) (out ++ l) r
def cubesK (L : List Nat) : Option (List (Nat × Nat)) := cubesC [] [] L
/-- A state is in a cube. -/
def inC (c : Nat × Nat) (s : Nat) : Bool := subN c.1 s && (c.2 &&& s == 0)
def cnt (l : List (Nat × Nat)) (s : Nat) : Nat := (l.filter fun c => inC c s).length
theorem and_zero_iff {a b : Nat} : (a &&& b == 0) = true ↔ ∀ i, a.testBit i = true → b.testBit i = false := by
  rw [beq_iff_eq]
  constructor
  · intro h i hi
    have : (a &&& b).testBit i = false := by rw [h]; exact Nat.zero_testBit i
    rw [Nat.testBit_and, hi] at this
    simpa using this
  · intro h
    apply Nat.eq_of_testBit_eq
    intro i
    rw [Nat.testBit_and, Nat.zero_testBit]
    cases ha : a.testBit i with
    | false => rfl
    | true => rw [h i ha]; rfl
theorem inC_iff {c : Nat × Nat} {s : Nat} : inC c s = true ↔ (∀ i, c.1.testBit i = true → s.testBit i = true) ∧ ∀ i, c.2.testBit i = true → s.testBit i = false := by
  unfold inC
  rw [Bool.and_eq_true, subN_iff, and_zero_iff]
theorem cnt_nil (s : Nat) : cnt [] s = 0 := rfl
theorem cnt_cons (c : Nat × Nat) (l : List (Nat × Nat)) (s : Nat) : cnt (c :: l) s = (if inC c s = true then 1 else 0) + cnt l s := by
  unfold cnt
  rw [List.filter_cons]
  split
  · rw [List.length_cons, Nat.add_comm]
  · omega
theorem cnt_app (a b : List (Nat × Nat)) (s : Nat) : cnt (a ++ b) s = cnt a s + cnt b s := by
  unfold cnt
  rw [List.filter_append, List.length_append]
theorem inC_no (y n i s : Nat) : inC (y, n ||| 2 ^ i) s = (inC (y, n) s && !s.testBit i) := by
  rw [Bool.eq_iff_iff, Bool.and_eq_true, inC_iff, inC_iff]
  constructor
  · rintro ⟨h1, h2⟩
    refine ⟨⟨h1, fun j hj => h2 j ?_⟩, ?_⟩
    · show (n ||| 2 ^ i).testBit j = true
      rw [Nat.testBit_or, hj]; rfl
    · rw [h2 i (by show (n ||| 2 ^ i).testBit i = true; rw [Nat.testBit_or, Nat.testBit_two_pow_self]; simp)]; rfl
  · rintro ⟨⟨h1, h2⟩, h3⟩
    refine ⟨h1, fun j hj => ?_⟩
    replace hj : (n ||| 2 ^ i).testBit j = true := hj
    rw [Nat.testBit_or, Nat.testBit_two_pow, Bool.or_eq_true, decide_eq_true_eq] at hj
    rcases hj with hj | rfl
    · exact h2 j hj
    · simpa using h3
theorem inC_yes (y n i s : Nat) : inC (y ||| 2 ^ i, n) s = (inC (y, n) s && s.testBit i) := by
  rw [Bool.eq_iff_iff, Bool.and_eq_true, inC_iff, inC_iff]
  constructor
  · rintro ⟨h1, h2⟩
    refine ⟨⟨fun j hj => h1 j ?_, h2⟩, h1 i ?_⟩
    · show (y ||| 2 ^ i).testBit j = true
      rw [Nat.testBit_or, hj]; rfl
    · show (y ||| 2 ^ i).testBit i = true
      rw [Nat.testBit_or, Nat.testBit_two_pow_self]; simp
  · rintro ⟨⟨h1, h2⟩, h3⟩
    refine ⟨fun j hj => ?_, h2⟩
    replace hj : (y ||| 2 ^ i).testBit j = true := hj
    rw [Nat.testBit_or, Nat.testBit_two_pow, Bool.or_eq_true, decide_eq_true_eq] at hj
    rcases hj with hj | rfl
    · exact h1 j hj
    · exact h3
theorem cnt_lessL (n s : Nat) : ∀ (is : List Nat) (y : Nat), cnt (lessL y n is) s = if inC (y, n) s = true ∧ (∃ i ∈ is, s.testBit i = false) then 1 else 0 := by
  intro is
  induction is with
  | nil => intro y; simp [lessL, cnt_nil]
  | cons i is ih =>
    intro y
    rw [lessL, cnt_cons, ih, inC_no, inC_yes]
    cases h1 : inC (y, n) s <;> cases h2 : s.testBit i <;> simp [h2]
theorem cnt_lessK {c : Nat × Nat} {b s : Nat} (hb : b < 16777216) : cnt (lessK c b) s = if inC c s = true ∧ subN b s = false then 1 else 0 := by
  obtain ⟨y, n⟩ := c
  unfold lessK
  by_cases h : b &&& n ≠ 0
  · rw [if_pos h, cnt_cons, cnt_nil, Nat.add_zero]
    have : inC (y, n) s = true → subN b s = false := by
      intro h1
      cases h2 : subN b s with
      | false => rfl
      | true =>
        refine absurd ?_ h
        have h3 := inC_iff.1 h1
        have h4 := subN_iff.1 h2
        apply Nat.eq_of_testBit_eq
        intro i
        rw [Nat.testBit_and, Nat.zero_testBit]
        cases hb : b.testBit i with
        | false => rfl
        | true =>
          cases hn : n.testBit i with
          | false => rfl
          | true => exact absurd (h4 i hb) (by rw [h3.2 i hn]; decide)
    by_cases h1 : inC (y, n) s = true
    · rw [if_pos h1, if_pos ⟨h1, this h1⟩]
    · rw [if_neg h1, if_neg (fun h => h1 h.1)]
  · rw [if_neg h, cnt_lessL]
    have : inC (y, n) s = true → ((∃ i ∈ elemsK (sdiff b y), s.testBit i = false) ↔ subN b s = false) := by
      intro h1
      have h3 := inC_iff.1 h1
      constructor
      · rintro ⟨i, hi, h4⟩
        cases h5 : subN b s with
        | false => rfl
        | true =>
          have h6 := (elems_lt hi).2
          rw [sdiff_bit, Bool.and_eq_true] at h6
          rw [subN_iff.1 h5 i h6.1] at h4
          cases h4
      · intro h4
        refine Classical.byContradiction fun h5 => ?_
        have h6 : subN b s = true := subN_iff.2 fun i hi => by
          cases hs : s.testBit i with
          | true => rfl
          | false =>
            refine absurd ⟨i, ?_, hs⟩ h5
            unfold elemsK
            rw [List.mem_filter, List.mem_range, sdiff_bit, hi]
            refine ⟨?_, ?_⟩
            · refine Nat.lt_of_not_le fun h => ?_
              have h7 : 2 ^ 24 ≤ b := Nat.le_trans (Nat.pow_le_pow_right (by omega) h) (Nat.ge_two_pow_of_testBit hi)
              exact absurd (show (2 : Nat) ^ 24 ≤ b from h7) (by rw [show (2 : Nat) ^ 24 = 16777216 from rfl]; omega)
            · cases hy : y.testBit i with
              | false => rfl
              | true => rw [h3.1 i hy] at hs; cases hs
        rw [h6] at h4
        cases h4
    by_cases h1 : inC (y, n) s = true
    · simp only [h1, true_and]
      by_cases h2 : subN b s = false
      · rw [if_pos ((this h1).2 h2), if_pos h2]
      · rw [if_neg (fun h => h2 ((this h1).1 h)), if_neg h2]
    · rw [if_neg (fun h => h1 h.1), if_neg (fun h => h1 h.1)]
theorem cnt_withK {b s : Nat} (hb : b < 16777216) : ∀ l, cnt (withK l b) s = if subN b s = true then 0 else cnt l s := by
  intro l
  induction l with
  | nil => simp [withK, cnt_nil]
  | cons c l ih =>
    have e : withK (c :: l) b = lessK c b ++ withK l b := by simp [withK]
    rw [e, cnt_app, ih, cnt_lessK hb, cnt_cons]
    cases h1 : inC c s <;> cases h2 : subN b s <;> simp
theorem cnt_own {most s : Nat} : ∀ {bs : List Nat} {l l' : List (Nat × Nat)}, (∀ b ∈ bs, b < 16777216) → ownC most bs l = some l' → cnt l' s = if covB bs s = true then 0 else cnt l s := by
  intro bs
  induction bs with
  | nil =>
    intro l l' _ h
    cases h
    simp [covB]
  | cons b bs ih =>
    intro l l' hb h
    rw [ownC] at h
    split at h
    · cases h
    · rw [ih (fun x hx => hb x (List.mem_cons_of_mem _ hx)) h, cnt_withK (hb b List.mem_cons_self)]
      have e : covB (b :: bs) s = (subN b s || covB bs s) := by simp [covB]
      rw [e]
      cases h1 : subN b s <;> cases h2 : covB bs s <;> simp
theorem cnt_cubesC {s : Nat} : ∀ {r pre : List Nat} {out out' : List (Nat × Nat)}, (∀ b ∈ pre ++ r, b < 16777216) → cubesC pre out r = some out' →
    cnt out' s = cnt out s + if covB pre s = true then 0 else if covB r s = true then 1 else 0 := by
  intro r
  induction r with
  | nil =>
    intro pre out out' _ h
    cases h
    simp [covB]
  | cons x r ih =>
    intro pre out out' hb h
    rw [cubesC] at h
    split at h
    · cases h
    · rename_i l hl
      rw [ih (fun b h => hb b (by simpa using h)) h, cnt_app, cnt_own (fun b h => hb b (List.mem_append_left _ h)) hl]
      have e0 : inC (x, 0) s = subN x s := by unfold inC; simp
      have e1 : cnt [(x, 0)] s = if subN x s = true then 1 else 0 := by rw [cnt_cons, cnt_nil, e0, Nat.add_zero]
      have e2 : covB (pre ++ [x]) s = (covB pre s || subN x s) := by simp [covB]
      have e3 : covB (x :: r) s = (subN x s || covB r s) := by simp [covB]
      rw [e1, e2, e3]
      cases h1 : covB pre s <;> cases h2 : subN x s <;> cases h3 : covB r s <;> simp
/-- A state that contains a set of the family is in exactly one cube, another one in none. -/
theorem cnt_cubes {L : List Nat} {out : List (Nat × Nat)} (hb : ∀ b ∈ L, b < 16777216) (h : cubesK L = some out) (s : Nat) : cnt out s = if covB L s = true then 1 else 0 := by
  have := cnt_cubesC (s := s) (r := L) (pre := []) (out := []) (by simpa using hb) h
  rw [this, cnt_nil]
  simp [covB]
/-- A property that all parts of a cube have. -/
theorem own_all {Pr : Nat × Nat → Prop} {most : Nat} : ∀ {bs : List Nat} {l l' : List (Nat × Nat)}, (∀ b ∈ bs, ∀ c, Pr c → ∀ d ∈ lessK c b, Pr d) → (∀ c ∈ l, Pr c) → ownC most bs l = some l' → ∀ c ∈ l', Pr c := by
  intro bs
  induction bs with
  | nil => intro l l' _ h1 h; cases h; exact h1
  | cons b bs ih =>
    intro l l' hb h1 h
    rw [ownC] at h
    split at h
    · cases h
    · refine ih (fun x hx => hb x (List.mem_cons_of_mem _ hx)) ?_ h
      intro c hc
      obtain ⟨d, hd, hc⟩ := List.mem_flatMap.1 hc
      exact hb b List.mem_cons_self d (h1 d hd) c hc
theorem cubesC_all {Pr : Nat × Nat → Prop} {L : List Nat} : ∀ {r pre : List Nat} {out out' : List (Nat × Nat)}, (∀ b ∈ L, ∀ c, Pr c → ∀ d ∈ lessK c b, Pr d) → (∀ b ∈ L, Pr (b, 0)) → (∀ b ∈ pre ++ r, b ∈ L) → (∀ c ∈ out, Pr c) →
    cubesC pre out r = some out' → ∀ c ∈ out', Pr c := by
  intro r
  induction r with
  | nil => intro pre out out' _ _ _ h2 h; cases h; exact h2
  | cons x r ih =>
    intro pre out out' hP h0 hL h2 h
    rw [cubesC] at h
    split at h
    · cases h
    · rename_i l hl
      refine ih hP h0 (fun b h => hL b (by simpa using h)) ?_ h
      intro c hc
      rcases List.mem_append.1 hc with hc | hc
      · exact h2 c hc
      · refine own_all (fun b hb => hP b (hL b (List.mem_append_left _ hb))) ?_ hl c hc
        intro c hc
        rw [List.mem_singleton] at hc
        rw [hc]
        exact h0 x (hL x (by simp))
theorem cubes_all {Pr : Nat × Nat → Prop} {L : List Nat} {out : List (Nat × Nat)} (hP : ∀ b ∈ L, ∀ c, Pr c → ∀ d ∈ lessK c b, Pr d) (h0 : ∀ b ∈ L, Pr (b, 0)) (h : cubesK L = some out) : ∀ c ∈ out, Pr c :=
  cubesC_all hP h0 (by simp) (by simp) h
theorem lessL_all {Pr : Nat × Nat → Prop} {n : Nat} : ∀ {is : List Nat} {y : Nat}, is.Nodup → (∀ i ∈ is, y.testBit i = false) →
    (∀ (y' i : Nat), i ∈ is → (∀ j, y'.testBit j = true → y.testBit j = true ∨ j ∈ is) → (∀ j, y.testBit j = true → y'.testBit j = true) → y'.testBit i = false → Pr (y', n ||| 2 ^ i)) → ∀ d ∈ lessL y n is, Pr d := by
  intro is
  induction is with
  | nil => intro y _ _ _ d hd; cases hd
  | cons i is ih =>
    intro y hn hy hP d hd
    rw [lessL] at hd
    rcases List.mem_cons.1 hd with rfl | hd
    · exact hP y i List.mem_cons_self (fun j h => .inl h) (fun j h => h) (hy i List.mem_cons_self)
    · have hn2 := List.nodup_cons.1 hn
      refine ih hn2.2 ?_ ?_ d hd
      · intro j hj
        rw [Nat.testBit_or, hy j (List.mem_cons_of_mem _ hj), Nat.testBit_two_pow]
        have : i ≠ j := fun h => hn2.1 (h ▸ hj)
        simp [this]
      · intro y' j hj h1 h2 h3
        refine hP y' j (List.mem_cons_of_mem _ hj) ?_ ?_ h3
        · intro k hk
          rcases h1 k hk with h | h
          · rw [Nat.testBit_or, Nat.testBit_two_pow, Bool.or_eq_true, decide_eq_true_eq] at h
            rcases h with h | rfl
            · exact .inl h
            · exact .inr List.mem_cons_self
          · exact .inr (List.mem_cons_of_mem _ h)
        · intro k hk
          refine h2 k ?_
          rw [Nat.testBit_or, hk]; rfl
theorem elems_nodup (s : Nat) : (elemsK s).Nodup := List.nodup_range.filter _
/-- A valid cube. -/
def CbOk (c : Nat × Nat) : Prop := c.1 < 16777216 ∧ c.2 < 16777216 ∧ c.1 &&& c.2 = 0
theorem lt_24 {x : Nat} (h : ∀ j, x.testBit j = true → j < 24) : x < 16777216 := by
  rw [show 16777216 = 2 ^ 24 from rfl]
  exact Nat.lt_pow_two_of_testBit x fun i hi => by
    cases hx : x.testBit i with
    | false => rfl
    | true => have := h i hx; omega
theorem bit_24 {x j : Nat} (h : x < 16777216) (hj : x.testBit j = true) : j < 24 := by
  refine Nat.lt_of_not_le fun h2 => ?_
  have h7 : 2 ^ 24 ≤ x := Nat.le_trans (Nat.pow_le_pow_right (by omega) h2) (Nat.ge_two_pow_of_testBit hj)
  rw [show (2 : Nat) ^ 24 = 16777216 from rfl] at h7
  omega
theorem and_eq_zero {a b : Nat} : a &&& b = 0 ↔ ∀ i, a.testBit i = true → b.testBit i = false := by
  rw [← beq_iff_eq]; exact and_zero_iff
theorem less_ok {b : Nat} {c : Nat × Nat} (hc : CbOk c) : ∀ d ∈ lessK c b, CbOk d := by
  intro d hd
  unfold lessK at hd
  split at hd
  · rw [List.mem_singleton] at hd; rw [hd]; exact hc
  · rename_i h
    obtain ⟨h1, h2, h3⟩ := hc
    have h0 : b &&& c.2 = 0 := Classical.byContradiction h
    refine lessL_all (elems_nodup _) ?_ ?_ d hd
    · intro i hi
      have := (elems_lt hi).2
      rw [sdiff_bit, Bool.and_eq_true] at this
      simpa using this.2
    · intro y' i hi h4 _ h5
      refine ⟨lt_24 fun j hj => ?_, lt_24 fun j hj => ?_, and_eq_zero.2 fun j hj => ?_⟩
      · rcases h4 j hj with h | h
        · exact bit_24 h1 h
        · exact (elems_lt h).1
      · replace hj : (c.2 ||| 2 ^ i).testBit j = true := hj
        rw [Nat.testBit_or, Nat.testBit_two_pow, Bool.or_eq_true, decide_eq_true_eq] at hj
        rcases hj with h | rfl
        · exact bit_24 h2 h
        · exact (elems_lt hi).1
      · show (c.2 ||| 2 ^ i).testBit j = false
        rw [Nat.testBit_or, Nat.testBit_two_pow, Bool.or_eq_false_iff, decide_eq_false_iff_not]
        refine ⟨?_, ?_⟩
        · rcases h4 j hj with h | h
          · exact and_eq_zero.1 h3 j h
          · have h6 := (elems_lt h).2
            rw [sdiff_bit, Bool.and_eq_true] at h6
            exact and_eq_zero.1 h0 j h6.1
        · rintro rfl
          rw [h5] at hj
          cases hj
theorem cubes_ok {L : List Nat} {out : List (Nat × Nat)} (hb : ∀ b ∈ L, b < 16777216) (h : cubesK L = some out) : ∀ c ∈ out, CbOk c :=
  cubes_all (fun _ _ _ hc => less_ok hc) (fun b h => ⟨hb b h, by show (0 : Nat) < 16777216; decide, by simp⟩) h
/-- Two cubes have a common state. -/
def meetC (a b : Nat × Nat) : Bool := a.1 &&& b.2 == 0 && a.2 &&& b.1 == 0
theorem own_le {most : Nat} : ∀ {bs : List Nat} {l l' : List (Nat × Nat)}, ownC most bs l = some l' → bs ≠ [] → l'.length ≤ most := by
  intro bs
  induction bs with
  | nil => intro _ _ _ h; exact absurd rfl h
  | cons b bs ih =>
    intro l l' h _
    rw [ownC] at h
    split at h
    · cases h
    · by_cases hb : bs = []
      · subst hb; cases h; omega
      · exact ih h hb
theorem cubesC_len : ∀ {r pre : List Nat} {out out' : List (Nat × Nat)}, cubesC pre out r = some out' → out.length ≤ 1024 → (pre = [] → out = []) → out'.length ≤ 1024 := by
  intro r
  induction r with
  | nil => intro pre out out' h h1 _; cases h; exact h1
  | cons x r ih =>
    intro pre out out' h h1 h2
    rw [cubesC] at h
    split at h
    · cases h
    · rename_i l hl
      refine ih h ?_ (fun h => absurd h (by simp))
      rw [List.length_append]
      by_cases hp : pre = []
      · rw [h2 hp]
        subst hp
        cases hl
        simp
      · have := own_le hl hp
        omega
theorem cubes_len {L : List Nat} {out : List (Nat × Nat)} (h : cubesK L = some out) : out.length ≤ 1024 := cubesC_len h (by decide) (fun _ => rfl)
end Go.Proofs.YthiemjodcklejaaGreatDoor

/-
  Plain: the mean of a number over independent events; cubes, disjoint cubes, sums over states.
-/
namespace Go.Proofs.YthiemjodcklejaaGreatDoor
open Go.RowKit

/-- The mean of F over the states of the first n events, of which event i fails with probability q i. -/
def EX (q : Nat → Rat) : Nat → (Nat → Rat) → Rat
  | 0, F => F 0
  | n + 1, F => q n * EX q n (fun s => F (s + 2 ^ n)) + (1 - q n) * EX q n F
def ind (b : Bool) : Rat := if b = true then 1 else 0
theorem EX_congr {q : Nat → Rat} : ∀ {n : Nat} {F G : Nat → Rat}, (∀ s, s < 2 ^ n → F s = G s) → EX q n F = EX q n G := by
  intro n
  induction n with
  | zero => intro F G h; exact h 0 (by decide)
  | succ n ih =>
    intro F G h
    rw [EX, EX, ih (F := F) (G := G) (fun s hs => h s (by rw [Nat.pow_succ]; omega)), ih (F := fun s => F (s + 2 ^ n)) (G := fun s => G (s + 2 ^ n)) (fun s hs => h _ (by rw [Nat.pow_succ]; omega))]
theorem EX_add {q : Nat → Rat} : ∀ {n : Nat} {F G : Nat → Rat}, EX q n (fun s => F s + G s) = EX q n F + EX q n G := by
  intro n
  induction n with
  | zero => intro F G; rfl
  | succ n ih =>
    intro F G
    rw [EX, EX, EX, ih (F := F) (G := G), ih (F := fun s => F (s + 2 ^ n)) (G := fun s => G (s + 2 ^ n))]
    grind
theorem EX_mul {q : Nat → Rat} : ∀ {n : Nat} {F : Nat → Rat} {c : Rat}, EX q n (fun s => c * F s) = c * EX q n F := by
  intro n
  induction n with
  | zero => intro F c; rfl
  | succ n ih =>
    intro F c
    rw [EX, EX, ih (F := F), ih (F := fun s => F (s + 2 ^ n))]
    grind
theorem EX_const {q : Nat → Rat} : ∀ {n : Nat} {c : Rat}, EX q n (fun _ => c) = c := by
  intro n
  induction n with
  | zero => intro c; rfl
  | succ n ih => intro c; rw [EX, ih]; grind
theorem EX_mono {q : Nat → Rat} : ∀ {n : Nat} {F G : Nat → Rat}, (∀ i, i < n → 0 ≤ q i ∧ q i ≤ 1) → (∀ s, s < 2 ^ n → F s ≤ G s) → EX q n F ≤ EX q n G := by
  intro n
  induction n with
  | zero => intro F G _ h; exact h 0 (by decide)
  | succ n ih =>
    intro F G hq h
    have h1 := ih (F := F) (G := G) (fun i hi => hq i (by omega)) (fun s hs => h s (by rw [Nat.pow_succ]; omega))
    have h2 := ih (F := fun s => F (s + 2 ^ n)) (G := fun s => G (s + 2 ^ n)) (fun i hi => hq i (by omega)) (fun s hs => h _ (by rw [Nat.pow_succ]; omega))
    obtain ⟨q0, q1⟩ := hq n (by omega)
    rw [EX, EX]
    have h3 := Rat.mul_le_mul_of_nonneg_left h2 q0
    have h4 := Rat.mul_le_mul_of_nonneg_left h1 ((Rat.le_iff_sub_nonneg _ _).1 q1)
    grind
theorem EX_unit {q : Nat → Rat} {n : Nat} {F : Nat → Rat} (hq : ∀ i, i < n → 0 ≤ q i ∧ q i ≤ 1) (h : ∀ s, s < 2 ^ n → 0 ≤ F s ∧ F s ≤ 1) : 0 ≤ EX q n F ∧ EX q n F ≤ 1 := by
  constructor
  · have := EX_mono (F := fun _ => 0) (G := F) hq (fun s hs => (h s hs).1)
    rwa [EX_const] at this
  · have := EX_mono (F := F) (G := fun _ => 1) hq (fun s hs => (h s hs).2)
    rwa [EX_const] at this
/-- The bits of a state below n are as a cube says. -/
def bitIn (c : Nat × Nat) (n s : Nat) : Bool := (List.range n).all fun i => (!c.1.testBit i || s.testBit i) && (!c.2.testBit i || !s.testBit i)
theorem bitIn_succ (c : Nat × Nat) (n s : Nat) : bitIn c (n + 1) s = (bitIn c n s && ((!c.1.testBit n || s.testBit n) && (!c.2.testBit n || !s.testBit n))) := by
  unfold bitIn
  rw [List.range_succ, List.all_append]
  simp
theorem bit_plus {n s : Nat} (h : s < 2 ^ n) : (s + 2 ^ n).testBit n = true ∧ s.testBit n = false ∧ ∀ i, i < n → (s + 2 ^ n).testBit i = s.testBit i := by
  refine ⟨?_, Nat.testBit_lt_two_pow h, fun i hi => ?_⟩
  · rw [Nat.add_comm, Nat.testBit_two_pow_add_eq, Nat.testBit_lt_two_pow h]; rfl
  · rw [Nat.add_comm, Nat.testBit_two_pow_add_gt hi]
theorem bitIn_congr {c : Nat × Nat} {n s t : Nat} (h : ∀ i, i < n → s.testBit i = t.testBit i) : bitIn c n s = bitIn c n t := by
  induction n with
  | zero => rfl
  | succ n ih => rw [bitIn_succ, bitIn_succ, ih (fun i hi => h i (by omega)), h n (by omega)]
/-- The product of the probabilities that a cube names. -/
def wQ (q : Nat → Rat) (c : Nat × Nat) : Nat → Rat
  | 0 => 1
  | n + 1 => (wQ q c n * if c.1.testBit n = true then q n else 1) * if c.2.testBit n = true then 1 - q n else 1
theorem EX_cube {q : Nat → Rat} {c : Nat × Nat} (hc : c.1 &&& c.2 = 0) : ∀ n, EX q n (fun s => ind (bitIn c n s)) = wQ q c n := by
  intro n
  induction n with
  | zero => rfl
  | succ n ih =>
    rw [EX, wQ]
    have hx := and_eq_zero.1 hc n
    have e1 : EX q n (fun s => ind (bitIn c (n + 1) (s + 2 ^ n))) = (if c.2.testBit n = true then 0 else 1) * EX q n (fun s => ind (bitIn c n s)) := by
      rw [← EX_mul]
      refine EX_congr fun s hs => ?_
      obtain ⟨b1, b2, b3⟩ := bit_plus hs
      rw [bitIn_succ, b1, bitIn_congr b3]
      cases bitIn c n s <;> cases c.1.testBit n <;> cases c.2.testBit n <;> simp [ind]
    have e2 : EX q n (fun s => ind (bitIn c (n + 1) s)) = (if c.1.testBit n = true then 0 else 1) * EX q n (fun s => ind (bitIn c n s)) := by
      rw [← EX_mul]
      refine EX_congr fun s hs => ?_
      obtain ⟨b1, b2, b3⟩ := bit_plus hs
      rw [bitIn_succ, b2]
      cases bitIn c n s <;> cases c.1.testBit n <;> cases c.2.testBit n <;> simp [ind]
    rw [e1, e2, ih]
    cases h1 : c.1.testBit n <;> cases h2 : c.2.testBit n
    · simp; grind
    · simp; grind
    · simp; grind
    · rw [hx h1] at h2; cases h2
theorem bitIn_inC {c : Nat × Nat} {n : Nat} (h1 : ∀ i, c.1.testBit i = true → i < n) (h2 : ∀ i, c.2.testBit i = true → i < n) (s : Nat) : bitIn c n s = inC c s := by
  rw [Bool.eq_iff_iff, inC_iff]
  unfold bitIn
  rw [List.all_eq_true]
  constructor
  · intro h
    refine ⟨fun i hi => ?_, fun i hi => ?_⟩
    · have := h i (List.mem_range.2 (h1 i hi))
      rw [hi, Bool.and_eq_true] at this; simpa using this.1
    · have := h i (List.mem_range.2 (h2 i hi))
      rw [hi, Bool.and_eq_true] at this; simpa using this.2
  · rintro ⟨h3, h4⟩ i _
    cases ha : c.1.testBit i <;> cases hb : c.2.testBit i
    · simp
    · simp [h4 i hb]
    · simp [h3 i ha]
    · have := h3 i ha
      rw [h4 i hb] at this
      cases this
/-- The sum of the weights of cubes is the mean number of cubes. -/
def sumW (q : Nat → Rat) (n : Nat) (l : List (Nat × Nat)) : Rat := l.foldl (fun a c => a + wQ q c n) 0
theorem foldl_sum {α : Type} (f : α → Rat) : ∀ (l : List α) (a : Rat), l.foldl (fun a c => a + f c) a = a + l.foldl (fun a c => a + f c) 0 := by
  intro l
  induction l with
  | nil => intro a; exact (Rat.add_zero a).symm
  | cons c l ih =>
    intro a
    rw [List.foldl_cons, List.foldl_cons, ih, ih (0 + f c)]
    grind
theorem sumW_cnt {q : Nat → Rat} {n : Nat} : ∀ {l : List (Nat × Nat)}, (∀ c ∈ l, c.1 &&& c.2 = 0 ∧ (∀ i, c.1.testBit i = true → i < n) ∧ ∀ i, c.2.testBit i = true → i < n) →
    sumW q n l = EX q n (fun s => ((cnt l s : Nat) : Rat)) := by
  intro l
  induction l with
  | nil => intro _; rw [EX_congr (G := fun _ => 0) (fun s _ => by rw [cnt_nil]; rfl), EX_const]; rfl
  | cons c l ih =>
    intro h
    obtain ⟨h1, h2, h3⟩ := h c List.mem_cons_self
    unfold sumW
    rw [List.foldl_cons, foldl_sum]
    have e : EX q n (fun s => ((cnt (c :: l) s : Nat) : Rat)) = EX q n (fun s => ind (bitIn c n s) + ((cnt l s : Nat) : Rat)) := by
      refine EX_congr fun s _ => ?_
      rw [bitIn_inC h2 h3, cnt_cons]
      unfold ind
      split
      · rw [Rat.natCast_add]; rfl
      · rw [Nat.zero_add, Rat.zero_add]
    rw [e, EX_add, EX_cube h1, ← ih (fun d hd => h d (List.mem_cons_of_mem _ hd))]
    unfold sumW
    grind
theorem sumW_unit {q : Nat → Rat} {n : Nat} {l : List (Nat × Nat)} (h : ∀ c ∈ l, c.1 &&& c.2 = 0 ∧ (∀ i, c.1.testBit i = true → i < n) ∧ ∀ i, c.2.testBit i = true → i < n) (hq : ∀ i, i < n → 0 ≤ q i ∧ q i ≤ 1) (h1 : ∀ s, cnt l s ≤ 1) :
    0 ≤ sumW q n l ∧ sumW q n l ≤ 1 := by
  rw [sumW_cnt h]
  refine EX_unit hq fun s _ => ?_
  have := h1 s
  rcases (by omega : cnt l s = 0 ∨ cnt l s = 1) with h | h
  · rw [h]; exact ⟨Rat.le_refl, by show (0 : Rat) ≤ 1; decide⟩
  · rw [h]; exact ⟨by show (0 : Rat) ≤ 1; decide, Rat.le_refl⟩
/-- The probability of a state. -/
def stQ (q : Nat → Rat) (s : Nat) : Nat → Rat
  | 0 => 1
  | n + 1 => stQ q s n * if s.testBit n = true then q n else 1 - q n
def sumTo (F : Nat → Rat) : Nat → Rat
  | 0 => 0
  | n + 1 => sumTo F n + F n
theorem stQ_congr {q : Nat → Rat} {s t : Nat} : ∀ {n : Nat}, (∀ i, i < n → s.testBit i = t.testBit i) → stQ q s n = stQ q t n := by
  intro n
  induction n with
  | zero => intro _; rfl
  | succ n ih => intro h; rw [stQ, stQ, ih (fun i hi => h i (by omega)), h n (by omega)]
theorem sumTo_congr {F G : Nat → Rat} : ∀ {n : Nat}, (∀ s, s < n → F s = G s) → sumTo F n = sumTo G n := by
  intro n
  induction n with
  | zero => intro _; rfl
  | succ n ih => intro h; rw [sumTo, sumTo, ih (fun i hi => h i (by omega)), h n (by omega)]
theorem sumTo_mul {F : Nat → Rat} {c : Rat} : ∀ {n : Nat}, sumTo (fun s => c * F s) n = c * sumTo F n := by
  intro n
  induction n with
  | zero => rw [sumTo, sumTo, Rat.mul_zero]
  | succ n ih => rw [sumTo, sumTo, ih]; grind
theorem sumTo_add {F : Nat → Rat} {a : Nat} : ∀ b, sumTo F (a + b) = sumTo F a + sumTo (fun s => F (s + a)) b := by
  intro b
  induction b with
  | zero => rw [Nat.add_zero, sumTo, Rat.add_zero]
  | succ b ih => rw [← Nat.add_assoc, sumTo, sumTo, ih, Nat.add_comm b a, Rat.add_assoc]
/-- The mean is the sum over the states. -/
theorem EX_sum {q : Nat → Rat} : ∀ {n : Nat} {F : Nat → Rat}, EX q n F = sumTo (fun s => F s * stQ q s n) (2 ^ n) := by
  intro n
  induction n with
  | zero => intro F; simp [EX, sumTo, stQ, Rat.zero_add]
  | succ n ih =>
    intro F
    rw [EX, Nat.pow_succ, Nat.mul_two, sumTo_add, ih, ih, ← sumTo_mul, ← sumTo_mul]
    rw [sumTo_congr (F := fun s => F s * stQ q s (n + 1)) (G := fun s => (1 - q n) * (F s * stQ q s n)) (fun s hs => by
      rw [stQ, (bit_plus hs).2.1, if_neg (by simp)]; grind)]
    rw [sumTo_congr (F := fun s => F (s + 2 ^ n) * stQ q (s + 2 ^ n) (n + 1)) (G := fun s => q n * (F (s + 2 ^ n) * stQ q s n)) (fun s hs => by
      obtain ⟨b1, b2, b3⟩ := bit_plus hs
      rw [stQ, b1, if_pos rfl, stQ_congr b3]; grind)]
    grind
end Go.Proofs.YthiemjodcklejaaGreatDoor

/-
  Cubes in memory: slices of pairs of ints that can be read, rows of the call's own, append.
-/
namespace Go.Proofs.YthiemjodcklejaaGreatDoor
open Go.RowKit

def ccells (c : Int × Int) : List Value := [.int .i64 c.1, .int .i64 c.2]
abbrev cubV (c : Int × Int) : Value := .agg #[.int .i64 c.1, .int .i64 c.2]
def ofC (c : Nat × Nat) : Int × Int := ((c.1 : Int), (c.2 : Int))
def ofCs (l : List (Nat × Nat)) : List (Int × Int) := l.map ofC
theorem ofCs_len (l : List (Nat × Nat)) : (ofCs l).length = l.length := List.length_map ..
theorem ofCs_app (a b : List (Nat × Nat)) : ofCs (a ++ b) = ofCs a ++ ofCs b := List.map_append ..
theorem rangeC_kept {w w' : World} {b o : Nat} {cs : List Value} (h : w.rangeAt b o cs) (hk : Kept w w') : w'.rangeAt b o cs := fun j v hj => hk.cell (h j v hj)
/-- A slice of cubes that can be read. -/
def CbsAt (w : World) (v : Value) (L : List (Int × Int)) : Prop :=
  ∃ (a : Option Addr) (c : Nat), v = .slice a L.length c ∧ (L.length ≤ c ∧ (a = none → c = 0)) ∧ L.length ≤ 1099511627776 ∧
    ∀ i (h : i < L.length), ∃ b o, a = some ⟨b, o, none⟩ ∧ w.rangeAt b (o + i * 2) (ccells L[i])
theorem CbsAt.kept {w w' : World} {v : Value} {L : List (Int × Int)} (h : CbsAt w v L) (hk : Kept w w') : CbsAt w' v L := by
  obtain ⟨a, c, h1, h2, h3, h5⟩ := h
  exact ⟨a, c, h1, h2, h3, fun i hi => let ⟨b, o, h6, h7⟩ := h5 i hi; ⟨b, o, h6, rangeC_kept h7 hk⟩⟩
theorem CbsAt.shape {w : World} {v : Value} {L : List (Int × Int)} (h : CbsAt w v L) : ∃ a c, v = .slice a L.length c := by
  obtain ⟨a, c, h, _⟩ := h; exact ⟨a, c, h⟩
theorem CbsAt.len {w : World} {v : Value} {L : List (Int × Int)} (h : CbsAt w v L) : L.length ≤ 1099511627776 := by
  obtain ⟨_, _, _, _, h, _⟩ := h; exact h
theorem CbsAt.nil (w : World) : CbsAt w (.slice none 0 0) [] := ⟨none, 0, rfl, ⟨by simp, fun _ => rfl⟩, by simp, fun i h => by simp at h⟩
/-- The two cells of a cube. -/
theorem CbsAt.get {w : World} {a : Option Addr} {n c : Nat} {L : List (Int × Int)} (h : CbsAt w (.slice a n c) L) (i : Nat) (hi : i < L.length) :
    ∃ b o, a = some ⟨b, o, none⟩ ∧ w.cell? ⟨b, o + i * 2, none⟩ = some (.int .i64 (L.getD i default).1) ∧ w.cell? ⟨b, o + (i * 2 + 1), none⟩ = some (.int .i64 (L.getD i default).2) := by
  obtain ⟨a', c', h1, _, _, h5⟩ := h
  injection h1 with h1
  subst h1
  obtain ⟨b, o, h6, h7⟩ := h5 i hi
  have e : L.getD i default = L[i] := by simp [List.getD_eq_getElem?_getD, hi]
  rw [e]
  refine ⟨b, o, h6, ?_, ?_⟩
  · have := h7 0 (.int .i64 L[i].1) rfl
    simpa using this
  · have := h7 1 (.int .i64 L[i].2) rfl
    rw [← Nat.add_assoc]
    simpa using this
/-- Cubes of the call's own. -/
def OwnCbs (w : World) (B : Nat) (v : Value) (L : List (Int × Int)) : Prop :=
  w.ownsRow B 77 2 v L.length (L.flatMap ccells) ∧ L.length ≤ 1099511627776
theorem OwnCbs.kept {w w' : World} {B : Nat} {v : Value} {L : List (Int × Int)} (h : OwnCbs w B v L) (hk : Kept w w') : OwnCbs w' B v L := ⟨own_kept h.1 hk, h.2⟩
theorem OwnCbs.nil (w : World) (B : Nat) : OwnCbs w B (.slice none 0 0) [] := ⟨World.ownsRow_nil _ _ _ _, by simp⟩
theorem len_cc (L : List (Int × Int)) : (L.flatMap ccells).length = L.length * 2 := by
  induction L with
  | nil => rfl
  | cons c L ih => simp [ccells, ih]; omega
theorem cc_get (L : List (Int × Int)) : ∀ i (h : i < L.length) j, j < 2 → (L.flatMap ccells)[i * 2 + j]? = (ccells L[i])[j]? := by
  induction L with
  | nil => intro i h; simp at h
  | cons c L ih =>
    intro i h j hj
    rw [List.flatMap_cons]
    cases i with
    | zero => rw [List.getElem?_append_left (by simp [ccells]; omega)]; simp
    | succ i =>
      rw [List.getElem?_append_right (by simp [ccells]; omega), show (ccells c).length = 2 from rfl, show (i + 1) * 2 + j - 2 = i * 2 + j by omega]
      exact ih i (by simpa using h) j hj
theorem OwnCbs.at {w : World} {B : Nat} {v : Value} {L : List (Int × Int)} (h : OwnCbs w B v L) : CbsAt w v L := by
  obtain ⟨⟨h1, h2⟩, h3⟩ := h
  rcases h2 with ⟨rfl, h6⟩ | ⟨g, cap, cur, rfl, h6, h7, h8, h9, h10, h11⟩
  · have : L = [] := List.eq_nil_of_length_eq_zero h6
    subst this
    exact CbsAt.nil w
  · refine ⟨some ⟨g, 0, none⟩, cap, rfl, ⟨h8, fun h => by cases h⟩, h3, fun i hi => ⟨g, 0, rfl, fun j u hj => ?_⟩⟩
    have hj3 : j < 2 := by
      have := (List.getElem?_eq_some_iff.1 hj).1
      simpa [ccells] using this
    have e1 : (cur.toList.take (L.length * 2))[i * 2 + j]? = (L.flatMap ccells)[i * 2 + j]? := by rw [h11]
    rw [List.getElem?_take_of_lt (by omega), cc_get L i hi j hj3, hj] at e1
    simp only [World.cell?, h7, Nat.zero_add]
    simpa using e1
theorem info_cube : (Tryz.prog.info? 77).map (fun i => (i.zero, i.size, i.bytes)) = some (some (.agg #[.int .i64 0, .int .i64 0]), 2, 16) := by kernel_rfl
theorem cc_one (L : List (Int × Int)) : ∀ u ∈ L.flatMap ccells, u.oneCell' = true := fun u hu => by
  obtain ⟨c, _, h⟩ := List.mem_flatMap.1 hu
  simp [ccells] at h
  rcases h with rfl | rfl <;> rfl
/-- append of a whole slice of cubes to cubes of the call's own. -/
theorem app_cbs {ops : Array Oper} {rest : List Oper} {o : Oper} {a : Act} {Q : Exit → Act → World → Prop} {w : World} (hgd : o.guard = none) (s x : Operand)
    (ho : o.op = .call { callee := .builtin .append, args := #[s, x], argTypes := #[70, 70] }) (B : Nat) (v : Value) (L : List (Int × Int)) (hs : a.eval s = v) (hown : OwnCbs w B v L)
    (u : Value) (M : List (Int × Int)) (hx : a.eval x = u) (hu : CbsAt w u M) (hl : L.length + M.length ≤ 1099511627776) (hB : B ≤ w.heap.size)
    (h : ∀ v' w', OwnCbs w' B v' (L ++ M) → w.grownBy w' v.ownBlock → Below B w w' → wpList Tryz.prog ops Q rest (a.put o.dst v') w') : wpList Tryz.prog ops Q (o :: rest) a w := by
  obtain ⟨i0, hi0, hz0, hz1, hz2⟩ := info_parts info_cube
  obtain ⟨ad, c, rfl, ⟨hc, hcn⟩, hl2, h5⟩ := hu
  cases ad with
  | none =>
    have hy : M = [] := by
      cases M with
      | nil => rfl
      | cons y M => obtain ⟨b, o, h, _⟩ := h5 0 (by simp); cases h
    subst hy
    rw [hcn rfl] at hx
    refine wpList_append_own_none hgd s x 70 ho B 77 i0 2 Tryz.underlying70 hi0 v L.length _ hs hown.1 hx ?_
    exact h v w (by simpa using hown) (World.grownBy.refl _ _) (Below.refl _ _)
  | some ad =>
    refine wpList_append_own _ hgd s x 70 ho B 77 i0 _ 2 16 Tryz.underlying70 hi0 hz0 hz1 hz2 rfl (by decide) v L.length _ hs hown.1 ad M.length c (M.flatMap ccells) hx (len_cc M) ?_ (cc_one M) (by simp [maxLen]; omega) (by omega) hB ?_
    · intro j u hj
      have hj' : j < M.length * 2 := by
        rw [← len_cc]
        exact (List.getElem?_eq_some_iff.1 hj).1
      obtain ⟨b, o, h6, h7⟩ := h5 (j / 2) (by omega)
      cases h6
      have e := cc_get M (j / 2) (by omega) (j % 2) (by omega)
      rw [show j / 2 * 2 + j % 2 = j by omega, hj] at e
      have := h7 (j % 2) u e.symm
      rw [show ({ block := b, off := o } : Addr).add j = ⟨b, o + j, none⟩ by unfold Addr.add; split <;> simp_all]
      rw [show o + j = o + j / 2 * 2 + j % 2 by omega]
      exact this
    · intro v' w' h6 h7 _
      exact h v' w' ⟨by rw [List.flatMap_append, List.length_append]; exact h6, by simp; omega⟩ h7 (grown_below h7 hown.1 hB)
/-- append of one cube that lies in a block of its own. -/
theorem app_cb {ops : Array Oper} {rest : List Oper} {o : Oper} {a : Act} {Q : Exit → Act → World → Prop} {w : World} (hgd : o.guard = none) (s x : Operand)
    (ho : o.op = .call { callee := .builtin .append, args := #[s, x], argTypes := #[70, 70] }) (B : Nat) (v : Value) (L : List (Int × Int)) (hs : a.eval s = v) (hown : OwnCbs w B v L)
    (g : Nat) (c : Int × Int) (hx : a.eval x = .slice (some ⟨g, 0, none⟩) 1 1) (hu : w.rangeAt g 0 (ccells c)) (hl : L.length < 1099511627776) (hB : B ≤ w.heap.size)
    (h : ∀ v' w', OwnCbs w' B v' (L ++ [c]) → w.grownBy w' v.ownBlock → Below B w w' → wpList Tryz.prog ops Q rest (a.put o.dst v') w') : wpList Tryz.prog ops Q (o :: rest) a w :=
  app_cbs hgd s x ho B v L hs hown _ [c] hx ⟨_, 1, rfl, ⟨by simp, fun h => by cases h⟩, by simp, fun i hi => ⟨g, 0, rfl, by
    have : i = 0 := by simpa using hi
    subst this; simpa using hu⟩⟩ (by simp; omega) hB h
theorem range_two (w : World) (x0 x1 : Value) (e : TypeId) : (w.alloc (.cells #[x0, x1] e)).rangeAt w.heap.size 0 [x0, x1] := by
  intro j v hj
  match j, hj with
  | 0, hj => simp at hj; subst hj; simp
  | 1, hj => simp at hj; subst hj; simp
/-- A literal of one cube. -/
theorem own_cube (w : World) (B : Nat) (c : Int × Int) (hB : B ≤ w.heap.size) : OwnCbs (w.alloc (.cells #[.int .i64 c.1, .int .i64 c.2] 77)) B (.slice (some ⟨w.heap.size, 0, none⟩) 1 1) [c] :=
  ⟨⟨by simp [ccells], .inr ⟨w.heap.size, 1, #[.int .i64 c.1, .int .i64 c.2], rfl, hB, heap_alloc_new w _, Nat.le_refl _, by unfold maxLen; omega, by simp, by simp [ccells]⟩⟩, by simp⟩
/-- Cubes of the call's own are kept by a store into an older block. -/
theorem OwnCbs.older {w w' : World} {B g : Nat} {v : Value} {L : List (Int × Int)} (h : OwnCbs w B v L) (hg : g < B) (ho : OnlyAt g w w') : OwnCbs w' B v L := by
  obtain ⟨⟨h1, h2⟩, h3⟩ := h
  refine ⟨⟨h1, ?_⟩, h3⟩
  rcases h2 with h2 | ⟨p, cap, cur, h4, h5, h6, h7⟩
  · exact .inl h2
  · refine .inr ⟨p, cap, cur, h4, h5, ?_, h7⟩
    have hlt : p < w.heap.size := by
      rcases Nat.lt_or_ge p w.heap.size with h8 | h8
      · exact h8
      · simp [Array.getElem?_eq_none h8] at h6
    rw [ho.block p hlt (by omega)]
    exact h6
end Go.Proofs.YthiemjodcklejaaGreatDoor

/-
  A fraction in a variable's cells; truncate.product, faultlineref35.Product.
-/
namespace Go.Proofs.YthiemjodcklejaaGreatDoor
open Go.RowKit

theorem FixAt.store {w : World} {g : Nat} {xs : List Value} (h : FixAt w g xs) (i : Nat) (u : Value) : FixAt (w.setCell ⟨g, i, none⟩ u) g (xs.set i u) := by
  obtain ⟨cur, e, h1, h2⟩ := h
  refine ⟨cur.setIfInBounds i u, e, by simp [World.setCell, Array.getElem?_modify, h1], ?_⟩
  rw [Array.toList_setIfInBounds, h2]
/-- A variable that holds a fraction. -/
def RatCell (w : World) (g : Nat) (r : Rw) : Prop := ∃ a1 c1 a2 c2, RowAt w g 31 [.bool r.neg, .slice a1 r.num.length c1, .slice a2 r.den.length c2] ∧ FixAt w g [.bool r.neg, .slice a1 r.num.length c1, .slice a2 r.den.length c2] ∧ WdsAt w (.slice a1 r.num.length c1) r.num ∧ WdsAt w (.slice a2 r.den.length c2) r.den
theorem RatCell.kept {w w' : World} {g : Nat} {r : Rw} (h : RatCell w g r) (hk : Kept w w') : RatCell w' g r := by
  obtain ⟨a1, c1, a2, c2, h1, h2, h3, h4⟩ := h
  exact ⟨a1, c1, a2, c2, h1.kept hk, h2.kept hk, h3.kept hk, h4.kept hk⟩
theorem RatCell.made {w : World} {r : Rw} {a1 a2 : Option Addr} {c1 c2 : Nat} (h1 : WdsAt w (.slice a1 r.num.length c1) r.num) (h2 : WdsAt w (.slice a2 r.den.length c2) r.den) :
    RatCell (w.alloc (.cells #[.bool r.neg, .slice a1 r.num.length c1, .slice a2 r.den.length c2] 31)) w.heap.size r :=
  ⟨a1, c1, a2, c2, RowAt.made w #[.bool r.neg, .slice a1 r.num.length c1, .slice a2 r.den.length c2] 31, FixAt.made w #[.bool r.neg, .slice a1 r.num.length c1, .slice a2 r.den.length c2] 31, h1.kept ((Kept.refl _).alloc _), h2.kept ((Kept.refl _).alloc _)⟩
theorem RatCell.store {w : World} {g : Nat} {r r' : Rw} {a1 a2 : Option Addr} {c1 c2 : Nat} (h : RatCell w g r) (h1 : WdsAt w (.slice a1 r'.num.length c1) r'.num) (h2 : WdsAt w (.slice a2 r'.den.length c2) r'.den) :
    RatCell (((w.setCell ⟨g, 0, none⟩ (.bool r'.neg)).setCell ⟨g, 1, none⟩ (.slice a1 r'.num.length c1)).setCell ⟨g, 2, none⟩ (.slice a2 r'.den.length c2)) g r' := by
  obtain ⟨a3, c3, a4, c4, h3, h4, _, _⟩ := h
  have hr := ((h3.store 0 (.bool r'.neg)).store 1 (.slice a1 r'.num.length c1)).store 2 (.slice a2 r'.den.length c2)
  have hf := ((h4.store 0 (.bool r'.neg)).store 1 (.slice a1 r'.num.length c1)).store 2 (.slice a2 r'.den.length c2)
  simp only [List.set_cons_zero, List.set_cons_succ] at hr hf
  have hO := (((OnlyAt.refl g w).store 0 (.bool r'.neg)).store 1 (.slice a1 r'.num.length c1)).store 2 (.slice a2 r'.den.length c2)
  exact ⟨a1, c1, a2, c2, hr, hf, h1.apart h4 (by simp) hO, h2.apart h4 (by simp) hO⟩
theorem RatCell.at {w : World} {g : Nat} {r : Rw} (h : RatCell w g r) : ∃ a1 c1 a2 c2, (w.cell? ⟨g, 0, none⟩ = some (.bool r.neg) ∧ w.cell? ⟨g, 1, none⟩ = some (.slice a1 r.num.length c1) ∧ w.cell? ⟨g, 2, none⟩ = some (.slice a2 r.den.length c2)) ∧ (w.frozen? ⟨g, 0, none⟩ = false ∧ w.frozen? ⟨g, 1, none⟩ = false ∧ w.frozen? ⟨g, 2, none⟩ = false) ∧ g < w.heap.size ∧ RatAt w (.agg #[.bool r.neg, .slice a1 r.num.length c1, .slice a2 r.den.length c2]) r := by
  obtain ⟨a1, c1, a2, c2, h1, h2, h3, h4⟩ := h
  refine ⟨a1, c1, a2, c2, ⟨?_, ?_, ?_⟩, ⟨h1.free 0, h1.free 1, h1.free 2⟩, h1.lt, _, _, rfl, h3, h4⟩
  · have := h1.cell (i := 0) (by simp); simpa using this
  · have := h1.cell (i := 1) (by simp); simpa using this
  · have := h1.cell (i := 2) (by simp); simpa using this
/-- The product of the probabilities of the events below n of a set. -/
def prodQ (s : Nat) (ps : List Rw) : Nat → Rat
  | 0 => 1
  | k + 1 => if s.testBit k = true then prodQ s ps k * ratOf (ps.getD k default) else prodQ s ps k
theorem RatsAt.ok {w : World} {v : Value} {ps : List Rw} (h : RatsAt w v ps) : ∀ r ∈ ps, r.Ok := by
  obtain ⟨a, c, _, _, _, h4⟩ := h
  intro r hr
  obtain ⟨i, hi, rfl⟩ := List.getElem_of_mem hr
  obtain ⟨_, _, _, _, _, _, h7, h8⟩ := h4 i hi
  exact ⟨h7.wd, h8.wd⟩
end Go.Proofs.YthiemjodcklejaaGreatDoor

/-
  Walk: faultlineref35.Product.
-/
namespace Go.Proofs.YthiemjodcklejaaGreatDoor
open Go.RowKit

/-- The product over the first elements of a list. -/
def prodE (L : List Nat) (ps : List Rw) (j : Nat) : Rat := (L.take j).foldl (fun (q : Rat) (i : Nat) => q * ratOf (ps.getD i default)) 1
end Go.Proofs.YthiemjodcklejaaGreatDoor
