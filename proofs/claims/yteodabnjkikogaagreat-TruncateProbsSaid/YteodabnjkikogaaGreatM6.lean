import Derived.WalkKit
import Derived.WalkSpells
import Derived.WalkLawsBesides
import Derived.Deep.QuietTactic
import Derived.BigQuiet
import Derived.Lib.Hide
import Derived.Shelf.Abstract
import Derived.Deep.RegionWith
import Derived.Laws.AppendOwnNone
import Derived.Lib.AppendZerosOnto
import Derived.Lib.SliceRun
import Derived.Lib.SlicesCompact
import Derived.Shelf.SlSortCmp.NoneTotal
import Derived.Maps.OwnOps
import Derived.Maps.OwnSet
import Derived.Maps.Views
import Derived.Deep.MidRow
import Derived.Deep.RegionHeld3
import Derived.Deep.AppendLies
import Derived.Deep.RegionLaw
import Derived.IntWalk
import Derived.StillTailTactics
import Derived.RegionTactic
import Derived.BigRegion
import Derived.ChangeAlike
import Derived.Sort.LotD2
import Derived.Sort.LotA
import Derived.Shelf.SlSortCmp.PdqK
import Derived.Deep.DeepCutAuto
import Derived.Lib.ItoaNum
import Derived.Deep.LoopGhost
import Derived.ProofKit
import Derived.OpenShut
import Derived.SizedLaws
import Derived.Lib.SmallJoins
import Derived.Deep.Slices
import Derived.Deep.Fields
import Derived.Deep.Strs
import Derived.Carry
import Derived.Lib.BitFns
import Derived.Deep.CutBlock
import Derived.Test.YteodabnjkikogaaGreatM5
import Derived.Test.YteodabnjkikogaaGreatM2
import Derived.Test.YteodabnjkikogaaGreatM3
import Derived.Test.YteodabnjkikogaaGreatM1
import Derived.Test.YteodabnjkikogaaGreatShelf
/-
  Walks: faultlineref02.Sub, Cmp, Prob.
-/
namespace Go.Proofs.YteodabnjkikogaaGreat
open Go.RowKit

set_option maxRecDepth 100000 in
set_option maxHeartbeats 4000000 in
theorem refsub02_any (va vb : Value) (r s : Rw) (w : World) (ha : RatAt w va r) (hb : RatAt w vb s) (hr : r.Short 34359738368) (hs : s.Short 34359738368) : Calls Tryz.prog 114 #[va, vb] w fun e w' => (∃ v', e = .returned v' ∧ RatAt w' v' (canR (ratOf r - ratOf s))) ∧ Kept w w' := by
  have HNE := Lib.hid (fun W (hk : Kept w W) => refneg_any vb s W (hb.kept hk) ⟨Nat.le_trans hs.1 (by omega), Nat.le_trans hs.2 (by omega)⟩)
  obtain ⟨R, hR⟩ : ∃ R, R = canR (ratOf r - ratOf s) := ⟨_, rfl⟩
  have HAD : Hid (∀ W v, Kept w W → RatAt W v (canR (- ratOf s)) → Calls Tryz.prog 45 #[va, v] W fun e w' => (∃ v', e = .returned v' ∧ RatAt w' v' R) ∧ Kept W w') := Lib.hid fun W v hk hv => by
    have h := refadd02_any va v r _ W (ha.kept hk) hv hr (short_neg hb.ok hs (by omega))
    rw [ratOf_can, ← Rat.sub_eq_add_neg, ← hR] at h
    exact h
  rw [← hR]
  obtain ⟨u1, u2, rfl, h1, h2⟩ := ha
  obtain ⟨u3, u4, rfl, h3, h4⟩ := hb
  obtain ⟨a1, c1, rfl⟩ := h1.shape
  obtain ⟨a2, c2, rfl⟩ := h2.shape
  obtain ⟨a3, c3, rfl⟩ := h3.shape
  obtain ⟨a4, c4, rfl⟩ := h4.shape
  generalize r.num.length = n1 at *
  generalize r.den.length = n2 at *
  generalize s.num.length = n3 at *
  generalize s.den.length = n4 at *
  generalize r.neg = neg1 at *
  generalize s.neg = neg2 at *
  obtain ⟨w2, hw2⟩ : ∃ w2, w2 = ((w.alloc (.cells #[.bool neg1, .slice a1 n1 c1, .slice a2 n2 c2] 28)).alloc (.cells #[.bool neg2, .slice a3 n3 c3, .slice a4 n4 c4] 28)).alloc (.cells #[.bool false, .slice none 0 0, .slice none 0 0] 28) := ⟨_, rfl⟩
  have HM := Lib.hid (res_made2 w (.cells #[.bool neg1, .slice a1 n1 c1, .slice a2 n2 c2] 28) (.cells #[.bool neg2, .slice a3 n3 c3, .slice a4 n4 c4] 28))
  rw [← hw2] at HM
  have ha2 := RowAt.made w #[.bool neg1, .slice a1 n1 c1, .slice a2 n2 c2] 28
  have HA2 : Hid (RowAt w2 w.heap.size 28 [.bool neg1, .slice a1 n1 c1, .slice a2 n2 c2]) := Lib.hid (by rw [hw2]; exact ha2.kept (((Kept.refl _).alloc _).alloc _))
  have hb2 := RowAt.made (w.alloc (.cells #[.bool neg1, .slice a1 n1 c1, .slice a2 n2 c2] 28)) #[.bool neg2, .slice a3 n3 c3, .slice a4 n4 c4] 28
  simp only [World.size_alloc] at hb2
  have HB2 : Hid (RowAt w2 (w.heap.size + 1) 28 [.bool neg2, .slice a3 n3 c3, .slice a4 n4 c4]) := Lib.hid (by rw [hw2]; exact hb2.kept ((Kept.refl _).alloc _))
  have HW2 := Lib.hid hw2
  clear hR h1 h2 h3 h4 hr hs hw2 ha2 hb2
  have p0 := HA2.out.cell (i := 0) (by simp)
  have p1 := HA2.out.cell (i := 1) (by simp)
  have p2 := HA2.out.cell (i := 2) (by simp)
  have g0 := HB2.out.cell (i := 0) (by simp)
  have g1 := HB2.out.cell (i := 1) (by simp)
  have g2 := HB2.out.cell (i := 2) (by simp)
  simp only [List.getElem_cons_succ, List.getElem_cons_zero] at p0 p1 p2 g0 g1 g2
  go_enter Tryz.func114, Tryz.ntmps114
  go_wp2_with fail
  rw [← HW2.out]
  go_region_with (first
    | (go_at_call 173; (with_reducible refine (HNE.out _ HM.out.2.2.drew).mono ?_); rintro e w3 ⟨⟨v3, rfl, hv3⟩, hk3⟩; have hkd := (Kept.refl w2).drew.trans hk3; have x0 := hkd.cell p0; have x1 := hkd.cell p1; have x2 := hkd.cell p2; have HV3 := Lib.hid hv3; have HKD := Lib.hid hkd; have HR3 := Lib.hid (HM.out.1.kept hkd); have HF3 := Lib.hid (HM.out.2.1.kept hkd); clear hv3 hk3 hkd)
    | (go_at_call 45; (with_reducible refine (HAD.out _ _ (HM.out.2.2.trans HKD.out) HV3.out).mono ?_); rintro e w4 ⟨⟨v4, rfl, hv4⟩, hk4⟩; have hr4 := HR3.out.kept hk4; have HR4 := Lib.hid hr4; have HF4 := Lib.hid (HF3.out.kept hk4); have HK4 := Lib.hid ((HM.out.2.2.trans HKD.out).trans hk4); obtain ⟨u5, u6, rfl, k5, k6⟩ := hv4; obtain ⟨a5, c5, rfl⟩ := k5.shape; obtain ⟨a6, c6, rfl⟩ := k6.shape; have K5 := Lib.hid k5; have K6 := Lib.hid k6; have z0 := hr4.cell (i := 0) (by simp); have z1 := hr4.cell (i := 1) (by simp); have z2 := hr4.cell (i := 2) (by simp); have f0 := hr4.free 0; have f1 := hr4.free 1; have f2 := hr4.free 2; clear k5 k6 hr4 hk4))
  all_goals
    obtain ⟨y0, y1, y2, hra⟩ := rat_stored HR4.out HF4.out K5.out K6.out
    generalize R.num.length = n7 at *
    generalize R.den.length = n8 at *
    go_wp2
    refine bodyPost_ret (v := .agg #[.bool R.neg, .slice a5 n7 c5, .slice a6 n8 c6]) ?_ rfl ⟨⟨_, rfl, hra⟩, ?_⟩
    · simp [results, Tryz.results114, go_sem, y0, y1, y2]
    · exact ((HK4.out.store (by omega) _ _).store (by omega) _ _).store (by omega) _ _
set_option maxRecDepth 100000 in
set_option maxHeartbeats 4000000 in
theorem refcmp02_any (va vb : Value) (r s : Rw) (w : World) (ha : RatAt w va r) (hb : RatAt w vb s) (hr : r.Short 34359738368) (hs : s.Short 34359738368) : Calls Tryz.prog 55 #[va, vb] w fun e w' => e = .returned (.int .i64 (sgnR (ratOf r - ratOf s))) ∧ Kept w w' := by
  have HSU := Lib.hid (fun W (hk : Kept w W) => refsub02_any va vb r s W (ha.kept hk) (hb.kept hk) hr hs)
  have hsh : (canR (ratOf r - ratOf s)).Short 137438953472 := by
    have h := short_add ha.ok (canR_ok _) hr (short_neg hb.ok hs (by omega)) (by omega) (by omega)
    rw [ratOf_can, ← Rat.sub_eq_add_neg] at h
    exact ⟨Nat.le_trans h.1 (by omega), Nat.le_trans h.2 (by omega)⟩
  have HSG : Hid (∀ W v, RatAt W v (canR (ratOf r - ratOf s)) → Calls Tryz.prog 54 #[v] W fun e w' => e = .returned (.int .i64 (sgnR (ratOf r - ratOf s))) ∧ Kept W w') := Lib.hid fun W v hv => by
    have h := refsign_any v _ W hv hsh
    rw [ratOf_can] at h
    exact h
  obtain ⟨u1, u2, rfl, h1, h2⟩ := ha
  obtain ⟨u3, u4, rfl, h3, h4⟩ := hb
  obtain ⟨a1, c1, rfl⟩ := h1.shape
  obtain ⟨a2, c2, rfl⟩ := h2.shape
  obtain ⟨a3, c3, rfl⟩ := h3.shape
  obtain ⟨a4, c4, rfl⟩ := h4.shape
  generalize canR (ratOf r - ratOf s) = R at *
  generalize sgnR (ratOf r - ratOf s) = S at *
  generalize r.num.length = n1 at *
  generalize r.den.length = n2 at *
  generalize s.num.length = n3 at *
  generalize s.den.length = n4 at *
  generalize r.neg = neg1 at *
  generalize s.neg = neg2 at *
  have HK0 : Hid (Kept w ((w.alloc (.cells #[.bool neg1, .slice a1 n1 c1, .slice a2 n2 c2] 28)).alloc (.cells #[.bool neg2, .slice a3 n3 c3, .slice a4 n4 c4] 28))) := Lib.hid (((Kept.refl w).alloc _).alloc _)
  clear h1 h2 h3 h4 hr hs hsh
  go_enter Tryz.func55, Tryz.ntmps55
  go_wp2_with fail
  refine (HSU.out _ HK0.out).mono ?_
  rintro e w3 ⟨⟨v3, rfl, hv3⟩, hk3⟩
  have HV3 := Lib.hid hv3
  have HK3 := Lib.hid (HK0.out.trans hk3)
  clear hv3 hk3
  go_wp2_with fail
  refine (HSG.out _ _ HV3.out).mono ?_
  rintro e w4 ⟨rfl, hk4⟩
  have HK4 := Lib.hid (HK3.out.trans hk4)
  clear hk4
  go_wp2
  go_ret
  exact ⟨rfl, HK4.out⟩
theorem one_short : (canR ((1 : Int) : Rat)).Short 1 := by
  have h1 : (nw 1).length ≤ 1 := nw_len_lt.2 (by omega)
  have h := canR_short false (n := 1) (d := 1) (k := 1) (l := 1) (by omega) h1 h1
  rw [show sg false 1 = (1 : Int) from rfl, Rat.mkRat_one] at h
  exact h
set_option maxRecDepth 100000 in
set_option maxHeartbeats 4000000 in
theorem refprob_any (v : Value) (r : Rw) (w : World) (hv : RatAt w v r) (hs : r.Short 34359738368) : Calls Tryz.prog 23 #[v] w fun e w' => e = .returned (.bool (probR r)) ∧ Kept w w' := by
  have HVA := Lib.hid (fun W (hk : Kept w W) => refvalid_any v r W (hv.kept hk) ⟨Nat.le_trans hs.1 (by omega), Nat.le_trans hs.2 (by omega)⟩)
  have HSG := Lib.hid (fun W (hk : Kept w W) => refsign_any v r W (hv.kept hk) ⟨Nat.le_trans hs.1 (by omega), Nat.le_trans hs.2 (by omega)⟩)
  have HOF : Hid (∀ W, Calls Tryz.prog 56 #[.int .i64 1] W fun e w' => (∃ v', e = .returned v' ∧ RatAt w' v' (canR ((1 : Int) : Rat))) ∧ Kept W w') := Lib.hid fun W => refof_any 1 W (by omega)
  have HCM : Hid (∀ W u, Kept w W → RatAt W u (canR ((1 : Int) : Rat)) → Calls Tryz.prog 55 #[v, u] W fun e w' => e = .returned (.int .i64 (sgnR (ratOf r - ((1 : Int) : Rat)))) ∧ Kept W w') := Lib.hid fun W u hk hu => by
    have h := refcmp02_any v u r _ W (hv.kept hk) hu hs ⟨Nat.le_trans one_short.1 (by omega), Nat.le_trans one_short.2 (by omega)⟩
    rw [ratOf_can] at h
    exact h
  rw [prob_sgn hv.ok]
  obtain ⟨neg, num, den⟩ := r
  obtain ⟨u1, u2, rfl, h1, h2⟩ := hv
  simp only at h1 h2
  obtain ⟨a1, c1, rfl⟩ := h1.shape
  obtain ⟨a2, c2, rfl⟩ := h2.shape
  generalize sgnR (ratOf ⟨neg, num, den⟩ - ((1 : Int) : Rat)) = T at *
  generalize sgnR (ratOf ⟨neg, num, den⟩) = S at *
  generalize canR ((1 : Int) : Rat) = ONE at *
  generalize validR ⟨neg, num, den⟩ = vb at *
  simp only at HVA HSG HCM ⊢
  generalize num.length = n1 at *
  generalize den.length = n2 at *
  obtain ⟨w1, hw1⟩ : ∃ w1, w1 = w.alloc (.cells #[.bool neg, .slice a1 n1 c1, .slice a2 n2 c2] 28) := ⟨_, rfl⟩
  have HR : Hid (RowAt w1 w.heap.size 28 [.bool neg, .slice a1 n1 c1, .slice a2 n2 c2]) := Lib.hid (by rw [hw1]; exact RowAt.made w #[.bool neg, .slice a1 n1 c1, .slice a2 n2 c2] 28)
  have HK0 : Hid (Kept w w1) := Lib.hid (by rw [hw1]; exact (Kept.refl w).alloc _)
  have HW1 := Lib.hid hw1
  have q0 := HR.out.cell (i := 0) (by simp)
  have q1 := HR.out.cell (i := 1) (by simp)
  have q2 := HR.out.cell (i := 2) (by simp)
  simp only [List.getElem_cons_succ, List.getElem_cons_zero] at q0 q1 q2
  clear h1 h2 hs hw1
  cases vb with
  | false =>
    go_enter Tryz.func23, Tryz.ntmps23
    go_wp2_with fail
    rw [← HW1.out]
    go_region_with (go_at_call 53; (with_reducible refine (HVA.out _ HK0.out.drew).mono ?_); rintro e w3 ⟨rfl, hk3⟩; have HKD := Lib.hid (HK0.out.drew.trans hk3); clear hk3)
    all_goals
      go_wp2
      go_ret
      exact ⟨by first | rfl | (simp [Act.put]; done) | (simp [go_sem]; done), HKD.out⟩
  | true =>
    by_cases hS : 0 ≤ S
    · have dS : decide (0 ≤ S) = true := by simp; exact hS
      have dS' : decide (S ≥ 0) = true := by simp; exact hS
      go_enter Tryz.func23, Tryz.ntmps23
      go_wp2_with fail
      rw [← HW1.out]
      go_region_with (first
        | (go_at_call 53; (with_reducible refine (HVA.out _ HK0.out.drew).mono ?_); rintro e w3 ⟨rfl, hk3⟩; have hkd := (Kept.refl w1).drew.trans hk3; have x0 := hkd.cell q0; have x1 := hkd.cell q1; have x2 := hkd.cell q2; have HKD := Lib.hid (HK0.out.trans hkd); clear hk3 hkd)
        | (go_at_call 54; (with_reducible refine (HSG.out _ HKD.out).mono ?_); rintro e w4 ⟨rfl, hk4⟩; have y0 := hk4.cell x0; have y1 := hk4.cell x1; have y2 := hk4.cell x2; have HK4 := Lib.hid (HKD.out.trans hk4); clear hk4)
        | (go_at_call 56; (with_reducible refine (HOF.out _).mono ?_); rintro e w5 ⟨⟨v5, rfl, hv5⟩, hk5⟩; have z0 := hk5.cell y0; have z1 := hk5.cell y1; have z2 := hk5.cell y2; have HK5 := Lib.hid (HK4.out.trans hk5); have HV5 := Lib.hid hv5; clear hk5 hv5)
        | (go_at_call 55; (with_reducible refine (HCM.out _ _ HK5.out HV5.out).mono ?_); rintro e w6 ⟨rfl, hk6⟩; have HK6 := Lib.hid (HK5.out.trans hk6); clear hk6))
      all_goals
        go_wp2
        go_ret
        exact ⟨by first | (simp [hS, Act.put]; done) | (simp [hS, go_sem]; done), HK6.out⟩
    · have dS : decide (0 ≤ S) = false := by simp; omega
      have dS' : decide (S ≥ 0) = false := by simp; omega
      go_enter Tryz.func23, Tryz.ntmps23
      go_wp2_with fail
      rw [← HW1.out]
      go_region_with (first
        | (go_at_call 53; (with_reducible refine (HVA.out _ HK0.out.drew).mono ?_); rintro e w3 ⟨rfl, hk3⟩; have hkd := (Kept.refl w1).drew.trans hk3; have x0 := hkd.cell q0; have x1 := hkd.cell q1; have x2 := hkd.cell q2; have HKD := Lib.hid (HK0.out.trans hkd); clear hk3 hkd)
        | (go_at_call 54; (with_reducible refine (HSG.out _ HKD.out).mono ?_); rintro e w4 ⟨rfl, hk4⟩; have HK4 := Lib.hid (HKD.out.trans hk4); clear hk4))
      all_goals
        go_wp2
        go_ret
        exact ⟨by simp [Act.put]; omega, HK4.out⟩
end Go.Proofs.YteodabnjkikogaaGreat

/-
  Lists of fractions in memory; arguments that are read as such.
-/
namespace Go.Proofs.YteodabnjkikogaaGreat
open Go.RowKit Go.ChangeShapes Go.WideShapes Go.ChangeAt Go.Joins Go.Deep

/-- Words that can be read, however many. -/
def WdRaw (w : World) (v : Value) (xs : List Nat) : Prop :=
  ∃ (a : Option Addr) (c : Nat), v = .slice a xs.length c ∧ (xs.length ≤ c ∧ (a = none → c = 0)) ∧ xs.length ≤ 140737488355328 ∧ Wd xs ∧
    ∀ i (_ : i < xs.length), ∃ b o, a = some ⟨b, o, none⟩ ∧ w.cell? ⟨b, o + i, none⟩ = some (.int .u32 ((xs.getD i 0 : Nat) : Int))
theorem WdRaw.kept {w w' : World} {v : Value} {xs : List Nat} (h : WdRaw w v xs) (hk : Kept w w') : WdRaw w' v xs := by
  obtain ⟨a, c, h1, h2, h3, h4, h5⟩ := h
  exact ⟨a, c, h1, h2, h3, h4, fun i hi => let ⟨b, o, h6, h7⟩ := h5 i hi; ⟨b, o, h6, hk.cell h7⟩⟩
theorem WdRaw.small {w : World} {v : Value} {xs : List Nat} (h : WdRaw w v xs) (hl : xs.length ≤ 1099511627776) : WdsAt w v xs := by
  obtain ⟨a, c, h1, h2, _, h4, h5⟩ := h
  exact ⟨a, c, h1, h2, hl, h4, h5⟩
theorem WdRaw.shape {w : World} {v : Value} {xs : List Nat} (h : WdRaw w v xs) : ∃ a c, v = .slice a xs.length c ∧ xs.length ≤ 140737488355328 := by
  obtain ⟨a, c, h1, _, h3, _⟩ := h
  exact ⟨a, c, h1, h3⟩
theorem WdRaw.nil (w : World) : WdRaw w (.slice none 0 0) [] := ⟨none, 0, rfl, ⟨by simp, fun _ => rfl⟩, by simp, Wd.nil, fun i h => by simp at h⟩
/-- A list of fractions. -/
def RatsRaw (w : World) (v : Value) (ps : List Rw) : Prop :=
  ∃ (a : Option Addr) (c : Nat), v = .slice a ps.length c ∧ (ps.length ≤ c ∧ (a = none → c = 0)) ∧ ps.length ≤ 140737488355328 ∧
    ∀ i (h : i < ps.length), ∃ b o u1 u2, a = some ⟨b, o, none⟩ ∧ w.rangeAt b (o + i * 3) [.bool ps[i].neg, u1, u2] ∧ WdRaw w u1 ps[i].num ∧ WdRaw w u2 ps[i].den
def RatsAt (w : World) (v : Value) (ps : List Rw) : Prop :=
  ∃ (a : Option Addr) (c : Nat), v = .slice a ps.length c ∧ (ps.length ≤ c ∧ (a = none → c = 0)) ∧ ps.length ≤ 140737488355328 ∧
    ∀ i (h : i < ps.length), ∃ b o u1 u2, a = some ⟨b, o, none⟩ ∧ w.rangeAt b (o + i * 3) [.bool ps[i].neg, u1, u2] ∧ WdsAt w u1 ps[i].num ∧ WdsAt w u2 ps[i].den
theorem range_same {w w' : World} {b o : Nat} {cs : List Value} (h : w.rangeAt b o cs) (hk : Kept w w') : w'.rangeAt b o cs := fun j v hj => hk.cell (h j v hj)
theorem RatsRaw.kept {w w' : World} {v : Value} {ps : List Rw} (h : RatsRaw w v ps) (hk : Kept w w') : RatsRaw w' v ps := by
  obtain ⟨a, c, h1, h2, h3, h4⟩ := h
  exact ⟨a, c, h1, h2, h3, fun i hi => let ⟨b, o, u1, u2, h5, h6, h7, h8⟩ := h4 i hi; ⟨b, o, u1, u2, h5, range_same h6 hk, h7.kept hk, h8.kept hk⟩⟩
theorem RatsAt.kept {w w' : World} {v : Value} {ps : List Rw} (h : RatsAt w v ps) (hk : Kept w w') : RatsAt w' v ps := by
  obtain ⟨a, c, h1, h2, h3, h4⟩ := h
  exact ⟨a, c, h1, h2, h3, fun i hi => let ⟨b, o, u1, u2, h5, h6, h7, h8⟩ := h4 i hi; ⟨b, o, u1, u2, h5, range_same h6 hk, h7.kept hk, h8.kept hk⟩⟩
theorem RatsRaw.small {w : World} {v : Value} {ps : List Rw} (h : RatsRaw w v ps) (hs : ∀ r ∈ ps, r.Short 1099511627776) : RatsAt w v ps := by
  obtain ⟨a, c, h1, h2, h3, h4⟩ := h
  exact ⟨a, c, h1, h2, h3, fun i hi => let ⟨b, o, u1, u2, h5, h6, h7, h8⟩ := h4 i hi; ⟨b, o, u1, u2, h5, h6, h7.small (hs _ (List.getElem_mem _)).1, h8.small (hs _ (List.getElem_mem _)).2⟩⟩
theorem RatsAt.shape {w : World} {v : Value} {ps : List Rw} (h : RatsAt w v ps) : ∃ a c, v = .slice a ps.length c := by obtain ⟨a, c, h1, _⟩ := h; exact ⟨a, c, h1⟩
theorem RatsAt.get {w : World} {a : Option Addr} {n c : Nat} {ps : List Rw} (h : RatsAt w (.slice a n c) ps) (i : Nat) (hi : i < ps.length) : ∃ b o u1 u2, a = some ⟨b, o, none⟩ ∧ w.rangeAt b (o + i * 3) [.bool (ps.getD i default).neg, u1, u2] ∧ WdsAt w u1 (ps.getD i default).num ∧ WdsAt w u2 (ps.getD i default).den := by
  obtain ⟨a', c', h1, _, _, h4⟩ := h
  injection h1 with e1 e2 e3
  subst e1
  have e : ps.getD i default = ps[i] := by simp [List.getD_eq_getElem?_getD, hi]
  rw [e]
  exact h4 i hi
theorem cells_rat : Tryz.prog.cellsOf 28 = 3 := by kernel_rfl
theorem cells_words : Tryz.prog.cellsOf 26 = 1 := by kernel_rfl
theorem cells_u32 : Tryz.prog.cellsOf 66 = 1 := by kernel_rfl
theorem cells_bool : Tryz.prog.cellsOf 4 = 1 := by kernel_rfl
theorem bytes_rat : Tryz.prog.bytesOf 28 = 56 := by kernel_rfl
theorem bytes_u32 : Tryz.prog.bytesOf 66 = 4 := by kernel_rfl
theorem bounds_u32 {n : Int} (h : (Lit.int .u32 n).wf = true) : 0 ≤ n ∧ n < 4294967296 := by
  simp [Lit.wf, IntKind.min, IntKind.max, IntKind.signed, IntKind.bits] at h
  omega
section
variable {H : Type} {enc : TypeId × Value → H} {W : World} {base : Nat}
/-- Words of a slice, read. -/
theorem words_open {fuel : Nat} {cs : List Value} {x : DataW H × List MemPlace} (hb : ∀ n ∈ x.1.weights Tryz.prog 26, n ≤ reachBytes)
    (h : DataW.trod enc Tryz.prog W base (fun _ => true) true fuel 26 cs = some x) : ∃ u xs, cs = [u] ∧ WdRaw W u xs := by
  rcases open_ints Tryz.underlying26 Tryz.underlying66 cells_u32 h with ⟨rfl, rfl⟩ | ⟨a, len, cap, zs, rfl, _, hl, hm, hz, rfl, hcell, hwz⟩
  · exact ⟨_, [], rfl, WdRaw.nil _⟩
  · simp only [if_true] at hz
    have hbb := hb ((zs.take len).length * 4 + (zs.drop len).length * 4) (by
      simp only [DataW.weights, Tryz.underlying26, bytes_u32, List.mem_cons]
      exact .inl (by simp [lits]; omega))
    simp [reachBytes] at hbb
    have hlen : ((zs.take len).map Int.toNat).length = len := by simp; omega
    refine ⟨_, (zs.take len).map Int.toNat, rfl, some a, cap, by rw [hlen], ⟨by rw [hlen]; exact hl, fun h => by cases h⟩, by rw [hlen]; omega, fun z hz => ?_, fun i hi => ?_⟩
    · obtain ⟨y, hy, rfl⟩ := List.mem_map.1 hz
      have := bounds_u32 (hwz y (List.mem_of_mem_take hy))
      omega
    · rw [hlen] at hi
      have hc := hcell i (by omega)
      obtain ⟨b, o, spot⟩ := a
      have hspot : spot = none := World.cell?_spot (hcell 0 (by omega))
      subst hspot
      refine ⟨b, o, rfl, ?_⟩
      have e : ((((zs.take len).map Int.toNat).getD i 0 : Nat) : Int) = zs.getD i 0 := by
        have h1 : i < zs.length := by omega
        have h2 := bounds_u32 (hwz zs[i] (List.getElem_mem _))
        simp [List.getD_eq_getElem?_getD, h1, hi]
        omega
      rw [e, ← hc]
      congr 1
      by_cases h0 : i = 0
      · subst h0; rfl
      · simp [Addr.add, h0]
set_option maxRecDepth 100000 in
theorem rats_open {fuel : Nat} {cs : List Value} {x : DataW H × List MemPlace} (hb : ∀ n ∈ x.1.weights Tryz.prog 25, n ≤ reachBytes)
    (h : DataW.trod enc Tryz.prog W base (fun _ => true) true fuel 25 cs = some x) : ∃ u ps, cs = [u] ∧ RatsRaw W u ps := by
  rcases open_slice Tryz.underlying25 h with ⟨rfl, rfl⟩ | ⟨a, len, cap, m, n, D, Pl, rfl, _, hl, hm, hmm, rfl, hx⟩
  · exact ⟨_, [], rfl, none, 0, rfl, ⟨by simp, fun _ => rfl⟩, by simp, fun i h => by simp at h⟩
  · simp only [if_true] at hmm
    have hmc := hmm.symm
    subst hmc
    have hbb := hb (cap * 56) (by
      simp only [DataW.weights, Tryz.underlying25, bytes_rat, List.mem_cons]
      refine .inl ?_
      simp; omega)
    simp [reachBytes] at hbb
    have each : ∀ i, i < len → ∃ y : Rw, ∃ b o u1 u2, a = ⟨b, o, none⟩ ∧ W.rangeAt b (o + i * 3) [.bool y.neg, u1, u2] ∧ WdRaw W u1 y.num ∧ WdRaw W u2 y.den := by
      intro i hi
      obtain ⟨cs', hc, ht⟩ := hx i (by omega)
      rw [cells_rat] at hc
      obtain ⟨_, hcl, hat⟩ := World.cells?_some hc
      obtain ⟨y0, y1, y2, n', hy, hlen, g0, g1, g2⟩ := trod_struct3 Tryz.underlying28 ht
      match cs', hcl with
      | [c0, c1, c2], _ =>
        have q0 := hat 0 (by omega)
        have q1 := hat 1 (by omega)
        have q2 := hat 2 (by omega)
        simp only [List.getElem?_cons_zero, List.getElem?_cons_succ] at q0 q1 q2
        have k0 : Tryz.prog.cellsOf 4 = 1 := cells_bool
        have k2 : Tryz.prog.cellsOf 26 = 1 := cells_words
        simp only [k0, k2, List.drop_zero, List.drop_succ_cons, List.take_succ_cons, List.take_zero] at g0 g1 g2
        obtain ⟨ng, e0, hy0⟩ := DataW.trod_bool Tryz.underlying4 g0
        simp at e0
        subst e0
        have hdi : D i = .agg [y0.1, y1.1, y2.1] := by simpa using congrArg Prod.fst hy
        obtain ⟨u1, xs1, e1, hu1⟩ := words_open (fun n hn => hb n (by
          simp only [DataW.weights, Tryz.underlying25, List.mem_cons, List.mem_append]
          refine .inr (.inl (weightsAll_mem (d := D i) (List.mem_map.2 ⟨i, by simpa using hi, rfl⟩) n ?_))
          rw [hdi]
          simp only [DataW.weights, Tryz.underlying28]
          simp only [List.map_cons, DataW.weightsEach, List.mem_append]
          exact .inr (.inl hn))) g1
        obtain ⟨u2, xs2, e2, hu2⟩ := words_open (fun n hn => hb n (by
          simp only [DataW.weights, Tryz.underlying25, List.mem_cons, List.mem_append]
          refine .inr (.inl (weightsAll_mem (d := D i) (List.mem_map.2 ⟨i, by simpa using hi, rfl⟩) n ?_))
          rw [hdi]
          simp only [DataW.weights, Tryz.underlying28]
          simp only [List.map_cons, DataW.weightsEach, List.mem_append]
          exact .inr (.inr (.inl hn)))) g2
        simp at e1 e2
        subst e1 e2
        obtain ⟨b, o, spot⟩ := a
        have hspot : spot = none := by
          obtain ⟨cs0, hc0, _⟩ := hx 0 (by omega)
          rw [cells_rat] at hc0
          obtain ⟨_, hcl0, hat0⟩ := World.cells?_some hc0
          have h1 := hat0 0 (by omega)
          rw [List.getElem?_eq_getElem (by omega)] at h1
          exact World.cell?_spot (a := ⟨b, o, spot⟩) (by simpa [Addr.add] using h1)
        subst hspot
        refine ⟨⟨ng, xs1, xs2⟩, b, o, c1, c2, rfl, ?_, hu1, hu2⟩
        intro j v hj
        match j, hj with
        | 0, hj => simp at hj; subst hj; rw [← q0, addP, addP]
        | 1, hj => simp at hj; subst hj; rw [← q1, addP, addP]
        | 2, hj => simp at hj; subst hj; rw [← q2, addP, addP]
    obtain ⟨g, hg⟩ := choose_lt each
    refine ⟨_, (List.range len).map g, rfl, some a, cap, by simp, ⟨by simp; omega, fun h => by cases h⟩, by simp; omega, fun i hi => ?_⟩
    simp only [List.length_map, List.length_range] at hi
    obtain ⟨b, o, u1, u2, rfl, h1, h2, h3⟩ := hg i hi
    exact ⟨b, o, u1, u2, rfl, by simpa using h1, by simpa using h2, by simpa using h3⟩
end
end Go.Proofs.YteodabnjkikogaaGreat

/-
  Walk: faultlinelaw35.Large. Printed by gen_A44.py.
-/
namespace Go.Proofs.YteodabnjkikogaaGreat
open Go.RowKit

/-- What Large's answer says. -/
def LargeV (u : Value) (ps : List Rw) : Prop := ∃ b, u = .bool b ∧ (b = false → ps.length ≤ 30 ∧ ∀ r ∈ ps, r.Short 3)
set_option maxRecDepth 100000 in
set_option maxHeartbeats 4000000 in
theorem large_any (v : Value) (ps : List Rw) (w : World) (hv : RatsRaw w v ps) :
    Calls Tryz.prog 9 #[v] w fun e w' => (∃ u, e = .returned u ∧ LargeV u ps) ∧ Kept w w' := by
  obtain ⟨a, c, rfl, ⟨hc, _⟩, hl, hx⟩ := hv
  obtain ⟨n, hn⟩ : ∃ n, n = ps.length := ⟨_, rfl⟩
  have hn9 : n ≤ 140737488355328 := by omega
  rw [← hn]
  have HX := Lib.hid hx
  have HN := Lib.hid hn
  clear hx hn hl hc
  go_enter Tryz.func9, Tryz.ntmps9
  go_wp2_with fail
  go_loopg [3, 8] n (fun kx s3 s8 wr => ∃ k t : Nat, k ≤ n ∧ s8 = .int .i64 k ∧ n - k ≤ kx ∧ s3 = .int .i64 t ∧ t ≤ 3 * k ∧ Hid (∀ r ∈ ps.take k, r.Short 3) ∧ Hid (Kept w wr))
  case atStart => exact ⟨0, 0, Nat.zero_le _, rfl, by omega, rfl, by omega, Lib.hid (by simp), Lib.hid (Kept.refl _)⟩
  case round =>
    obtain ⟨k, t, hk, rfl, hkx, rfl, ht, HF, HK⟩ := hrel
    by_cases hlt : k < n
    · have hkl : k < ps.length := by have := HN.out; omega
      obtain ⟨b, o, u1, u2, rfl, hrg, hw1, hw2⟩ := HX.out k hkl
      obtain ⟨r, hr⟩ : ∃ r, r = ps[k] := ⟨_, rfl⟩
      rw [← hr] at hrg hw1 hw2
      have HR := Lib.hid hr
      have HRG0 := range_same hrg HK.out
      have hw2' := hw2.kept HK.out
      obtain ⟨a1, c1, rfl, hl1⟩ := hw1.shape
      obtain ⟨a2, c2, rfl, hl2⟩ := hw2.shape
      have HNX : Hid (r.Short 3 → ∀ x ∈ ps.take (k + 1), x.Short 3) := Lib.hid fun h x hx => by
        rw [List.take_succ_eq_append_getElem hkl] at hx
        rcases List.mem_append.1 hx with hx | hx
        · exact HF.out x hx
        · simp at hx; rw [hx, ← HR.out]; exact h
      have HSH : Hid (r.num.length ≤ 3 → r.den.length ≤ 3 → r.Short 3) := Lib.hid fun h1 h2 => ⟨h1, h2⟩
      obtain ⟨n1, hn1⟩ : ∃ n1, n1 = r.num.length := ⟨_, rfl⟩
      obtain ⟨n2, hn2⟩ : ∃ n2, n2 = r.den.length := ⟨_, rfl⟩
      rw [← hn1] at HRG0 hl1 HSH
      rw [← hn2] at HRG0 hl2 HSH hw2'
      have HRG : Hid (wr.rangeAt b (o + k * 3) [.bool r.neg, .slice a1 n1 c1, .slice a2 n2 c2]) := Lib.hid HRG0
      have HK2 : Hid (Kept w (wr.alloc (.cells #[.bool r.neg, .slice a1 n1 c1, .slice a2 n2 c2] 28))) := Lib.hid (HK.out.alloc _)
      have HW2 := Lib.hid hw2'
      have HN2 := Lib.hid hn2
      have hkn : (k : Int) < (n : Int) := by omega
      clear hr hrg hw1 hw2 hw2' HRG0 hn1 hn2
      by_cases h1 : 3 < n1
      · have g1 : (3 : Int) < (n1 : Int) := by omega
        have d1 : decide ((3 : Int) < (n1 : Int)) = true := decide_eq_true g1
        go_wp2_with (with_reducible refine wpList_load_mid rfl 28 _ rfl b (o + k * 3) rfl _ _ HRG.out Tryz.underlying28 rfl (by kernel_rfl) ?_)
        go_ret
        exact ⟨⟨_, rfl, true, rfl, fun h => by cases h⟩, HK2.out⟩
      · have g1 : ¬ (3 : Int) < (n1 : Int) := by omega
        have d1 : decide ((3 : Int) < (n1 : Int)) = false := decide_eq_false g1
        by_cases h2 : 3 < n2
        · have g2 : (3 : Int) < (n2 : Int) := by omega
          have d2 : decide ((3 : Int) < (n2 : Int)) = true := decide_eq_true g2
          go_wp2_with (with_reducible refine wpList_load_mid rfl 28 _ rfl b (o + k * 3) rfl _ _ HRG.out Tryz.underlying28 rfl (by kernel_rfl) ?_)
          go_ret
          exact ⟨⟨_, rfl, true, rfl, fun h => by cases h⟩, HK2.out⟩
        · have g2 : ¬ (3 : Int) < (n2 : Int) := by omega
          have d2 : decide ((3 : Int) < (n2 : Int)) = false := decide_eq_false g2
          have HS3 := Lib.hid (HNX.out (HSH.out (by omega) (by omega)))
          obtain ⟨mx, hmx⟩ : ∃ mx, mx = max n1 n2 := ⟨_, rfl⟩
          have emx : max (n1 : Int) (n2 : Int) = (mx : Int) := by omega
          obtain ⟨t2, ht2⟩ : ∃ t2, t2 = t + mx := ⟨_, rfl⟩
          have et2 : (t : Int) + (mx : Int) = (t2 : Int) := by omega
          have ht29 : t2 ≤ 3 * (k + 1) := by omega
          have ht28 : t2 ≤ 422212465065987 := by omega
          clear hmx ht2
          by_cases h3 : 1 < n1
          · have g3 : (1 : Int) < (n1 : Int) := by omega
            have d3 : decide ((1 : Int) < (n1 : Int)) = true := decide_eq_true g3
            go_wp2_with (with_reducible refine wpList_load_mid rfl 28 _ rfl b (o + k * 3) rfl _ _ HRG.out Tryz.underlying28 rfl (by kernel_rfl) ?_)
            go_roundg (n - (k + 1))
            case measure => omega
            case rel => exact ⟨k + 1, t2, by omega, by go_num, Nat.le_refl _, rfl, ht29, HS3, HK2⟩
          · have g3 : ¬ (1 : Int) < (n1 : Int) := by omega
            have d3 : decide ((1 : Int) < (n1 : Int)) = false := decide_eq_false g3
            by_cases h4 : 1 < n2
            · have g4 : (1 : Int) < (n2 : Int) := by omega
              have d4 : decide ((1 : Int) < (n2 : Int)) = true := decide_eq_true g4
              go_wp2_with (with_reducible refine wpList_load_mid rfl 28 _ rfl b (o + k * 3) rfl _ _ HRG.out Tryz.underlying28 rfl (by kernel_rfl) ?_)
              go_roundg (n - (k + 1))
              case measure => omega
              case rel => exact ⟨k + 1, t2, by omega, by go_num, Nat.le_refl _, rfl, ht29, HS3, HK2⟩
            · have g4 : ¬ (1 : Int) < (n2 : Int) := by omega
              have d4 : decide ((1 : Int) < (n2 : Int)) = false := decide_eq_false g4
              by_cases h5 : n2 = 1
              · have e5 : ((n2 : Int) == 1) = true := by simp; omega
                have hden : 0 < r.den.length := by have := HN2.out; omega
                obtain ⟨a2', c2', h6, h7, _, _, h8⟩ := HW2.out
                injection h6 with h9 h10 h11
                obtain ⟨b2, o2, h12, h13⟩ := h8 0 hden
                rw [← h9] at h12
                subst h12
                obtain ⟨y, hy⟩ : ∃ y, y = r.den.getD 0 0 := ⟨_, rfl⟩
                rw [← hy, Nat.add_zero] at h13
                have h14 := ((Kept.refl wr).alloc (.cells #[.bool r.neg, .slice a1 n1 c1, .slice (some ⟨b2, o2, none⟩) n2 c2] 28)).cell h13
                have q0 : (0 : Int) < (n2 : Int) := by omega
                have q0' : 0 < n2 := by omega
                clear h7 h8 h9 h10 h11 h13 hy h5
                by_cases h15 : 1024 ≤ y
                · have d5 : decide ((1024 : Int) ≤ (y : Int)) = true := decide_eq_true (by omega)
                  have g5 : (1024 : Int) ≤ (y : Int) := by omega
                  go_wp2_with (with_reducible refine wpList_load_mid rfl 28 _ rfl b (o + k * 3) rfl _ _ HRG.out Tryz.underlying28 rfl (by kernel_rfl) ?_)
                  go_roundg (n - (k + 1))
                  case measure => omega
                  case rel => exact ⟨k + 1, t2, by omega, by go_num, Nat.le_refl _, rfl, ht29, HS3, HK2⟩
                · have d5 : decide ((1024 : Int) ≤ (y : Int)) = false := decide_eq_false (by omega)
                  have g5 : ¬ (1024 : Int) ≤ (y : Int) := by omega
                  go_wp2_with (with_reducible refine wpList_load_mid rfl 28 _ rfl b (o + k * 3) rfl _ _ HRG.out Tryz.underlying28 rfl (by kernel_rfl) ?_)
                  go_roundg (n - (k + 1))
                  case measure => omega
                  case rel => exact ⟨k + 1, t, by omega, by go_num, Nat.le_refl _, rfl, by omega, HS3, HK2⟩
              · have e5 : ((n2 : Int) == 1) = false := by simp; omega
                go_wp2_with (with_reducible refine wpList_load_mid rfl 28 _ rfl b (o + k * 3) rfl _ _ HRG.out Tryz.underlying28 rfl (by kernel_rfl) ?_)
                go_roundg (n - (k + 1))
                case measure => omega
                case rel => exact ⟨k + 1, t, by omega, by go_num, Nat.le_refl _, rfl, by omega, HS3, HK2⟩
    · have hke : k = n := by omega
      have HALL : Hid (∀ r ∈ ps, r.Short 3) := Lib.hid (by have := HF.out; rwa [List.take_of_length_le (by have := HN.out; omega)] at this)
      have hkn : ¬ (k : Int) < (n : Int) := by omega
      by_cases h30 : 30 < n
      · have g30 : (30 : Int) < (n : Int) := by omega
        have d30 : decide ((30 : Int) < (n : Int)) = true := decide_eq_true g30
        go_wp2
        go_ret
        exact ⟨⟨_, rfl, true, rfl, fun h => by cases h⟩, HK.out⟩
      · have g30 : ¬ (30 : Int) < (n : Int) := by omega
        have d30 : decide ((30 : Int) < (n : Int)) = false := decide_eq_false g30
        go_wp2
        go_ret
        exact ⟨⟨_, rfl, _, rfl, fun _ => ⟨by have := HN.out; omega, HALL.out⟩⟩, HK.out⟩
end Go.Proofs.YteodabnjkikogaaGreat

/-
  Walks: slices.ContainsFunc over fractions; truncate.bad, faultlineref35.Bad.
-/
namespace Go.Proofs.YteodabnjkikogaaGreat
open Go.RowKit

def DecidesQ (g : Nat) (lb : Array Value) (p : Rw → Bool) (w : World) : Prop :=
  ∀ (W : World) (u : Value) (x : Rw), Kept w W → RatAt W u x → x.Short 34359738368 → Calls Tryz.prog g (#[u] ++ lb) W fun e W' => e = .returned (.bool (p x)) ∧ Kept W W'
set_option maxRecDepth 100000 in
theorem indexQ_any (g : Nat) (lb : Array Value) (eg : ∀ args w, (callFunc g args).run Tryz.prog w = .ok (.enter g args) w) (p : Rw → Bool) (v : Value) (L : List Rw) (w : World)
    (hp : DecidesQ g lb p w) (hv : RatsAt w v L) (hlt : ∀ x ∈ L, x.Short 34359738368) :
    Calls Tryz.prog 121 #[v, .func (.func g) #[] lb] w fun e w' => (∃ n : Int, e = .returned (.int .i64 n) ∧ (decide (0 ≤ n) = L.any p)) ∧ Kept w w' := by
  obtain ⟨a, c, rfl, ⟨hc, _⟩, hl, hx⟩ := hv
  obtain ⟨n, hn⟩ : ∃ n, n = L.length := ⟨_, rfl⟩
  have hbig : n ≤ 140737488355328 := by omega
  rw [← hn]
  have HX := Lib.hid hx
  have HN := Lib.hid hn
  have HP := Lib.hid hp
  have HLT := Lib.hid hlt
  clear hx hn hp hl hc hlt
  go_enter Tryz.func121, Tryz.ntmps121
  go_wp2
  go_loopg [8] n (fun kx i wr => ∃ k : Nat, k ≤ n ∧ i = .int .i64 k ∧ n - k ≤ kx ∧ Hid (∀ x ∈ L.take k, p x = false) ∧ Hid (Kept w wr))
  case atStart => exact ⟨0, Nat.zero_le _, rfl, by omega, Lib.hid (by simp), Lib.hid (Kept.refl _)⟩
  case round =>
    obtain ⟨k, hk, rfl, hkx, HF, HK⟩ := hrel
    by_cases hlt : k < n
    · have hkl : k < L.length := by have := HN.out; omega
      obtain ⟨b, o, u1, u2, rfl, hrg, hw1, hw2⟩ := HX.out k hkl
      have hrg2 := range_same hrg HK.out
      have hxl := HLT.out L[k] (List.getElem_mem _)
      obtain ⟨x, hxx⟩ : ∃ x, x = L[k] := ⟨_, rfl⟩
      rw [← hxx] at hrg2 hxl hw1 hw2
      have HXX := Lib.hid hxx
      obtain ⟨a1, c1, rfl⟩ := hw1.shape
      obtain ⟨a2, c2, rfl⟩ := hw2.shape
      have HC : Hid (∀ W, Kept w W → Calls Tryz.prog g (#[.agg #[.bool x.neg, .slice a1 x.num.length c1, .slice a2 x.den.length c2]] ++ lb) W fun e W' => e = .returned (.bool (p x)) ∧ Kept W W') := Lib.hid fun W hk => HP.out W _ x hk ⟨_, _, rfl, hw1.kept hk, hw2.kept hk⟩ hxl
      generalize x.num.length = n1 at *
      generalize x.den.length = n2 at *
      have HRG : Hid (wr.rangeAt b (o + k * 3) [.bool x.neg, .slice a1 n1 c1, .slice a2 n2 c2]) := Lib.hid hrg2
      have hkn : (k : Int) < (n : Int) := by omega
      clear hrg hrg2 hxx hxl hw1 hw2
      cases hq : p x with
      | true =>
        rw [hq] at HC
        have HQ := Lib.hid hq
        clear hq
        go_wp2_with (first | (with_reducible refine wpList_load_mid rfl 28 _ rfl b (o + k * 3) rfl _ _ HRG.out Tryz.underlying28 rfl (by kernel_rfl) ?_) | (go_at_fn g; refine (HC.out _ HK.out).mono ?_; rintro e w' ⟨rfl, hK2⟩))
        go_ret
        refine ⟨⟨k, rfl, ?_⟩, HK.out.trans hK2⟩
        have : L.any p = true := List.any_eq_true.2 ⟨x, by rw [HXX.out]; exact List.getElem_mem _, HQ.out⟩
        rw [this]; simp
      | false =>
        rw [hq] at HC
        have HQ := Lib.hid hq
        clear hq
        go_wp2_with (first | (with_reducible refine wpList_load_mid rfl 28 _ rfl b (o + k * 3) rfl _ _ HRG.out Tryz.underlying28 rfl (by kernel_rfl) ?_) | (go_at_fn g; refine (HC.out _ HK.out).mono ?_; rintro e w' ⟨rfl, hK2⟩))
        go_roundg (n - (k + 1))
        case measure => omega
        case rel =>
          refine ⟨k + 1, by omega, by go_num, Nat.le_refl _, Lib.hid ?_, Lib.hid (HK.out.trans hK2)⟩
          intro y hy
          rw [List.take_succ_eq_append_getElem hkl] at hy
          rcases List.mem_append.1 hy with hy | hy
          · exact HF.out y hy
          · simp at hy; rw [hy, ← HXX.out]; exact HQ.out
    · go_wp2
      go_ret
      refine ⟨⟨-1, rfl, ?_⟩, HK.out⟩
      have hh := HF.out
      rw [List.take_of_length_le (by have := HN.out; omega)] at hh
      have : L.any p = false := by rw [List.any_eq_false]; intro y hy; simp [hh y hy]
      rw [this]; rfl
set_option maxRecDepth 100000 in
theorem hasQ_any (g : Nat) (lb : Array Value) (eg : ∀ args w, (callFunc g args).run Tryz.prog w = .ok (.enter g args) w) (p : Rw → Bool) (v : Value) (L : List Rw) (w : World)
    (hp : DecidesQ g lb p w) (hv : RatsAt w v L) (hlt : ∀ x ∈ L, x.Short 34359738368) :
    Calls Tryz.prog 65 #[v, .func (.func g) #[] lb] w fun e w' => e = .returned (.bool (L.any p)) ∧ Kept w w' := by
  have h := indexQ_any g lb eg p v L w hp hv hlt
  have H := Lib.hid h
  clear h hp hv eg hlt
  obtain ⟨r, hr⟩ : ∃ r, r = L.any p := ⟨_, rfl⟩
  rw [← hr] at H ⊢
  clear hr
  go_enter Tryz.func65, Tryz.ntmps65
  go_wp2_with (go_at_call 121; refine H.out.mono ?_; rintro e w' ⟨⟨n, rfl, hn⟩, hK⟩; have HN := Lib.hid hn; clear hn)
  go_ret
  exact ⟨by rw [← HN.out]; rfl, hK⟩
/-- Whether one of some fractions is no probability. -/
def badR (ps : List Rw) : Bool := ps.any fun r => !probR r
theorem decides_bad (w : World) : DecidesQ 66 #[] (fun r => !probR r) w := by
  intro W u x _ hu hs
  show Calls Tryz.prog _ #[u] W fun e W' => e = .returned (.bool (!probR x)) ∧ Kept W W'
  have HP := Lib.hid (fun W2 (hk : Kept W W2) => rprob_any u x W2 (hu.kept hk) ⟨Nat.le_trans hs.1 (by omega), Nat.le_trans hs.2 (by omega)⟩)
  obtain ⟨u1, u2, rfl, h1, h2⟩ := hu
  obtain ⟨a1, c1, rfl⟩ := h1.shape
  obtain ⟨a2, c2, rfl⟩ := h2.shape
  have HK0 : Hid (Kept W (W.alloc (.cells #[.bool x.neg, .slice a1 x.num.length c1, .slice a2 x.den.length c2] 28))) := Lib.hid ((Kept.refl W).alloc _)
  generalize probR x = q at *
  generalize x.num.length = n1 at *
  generalize x.den.length = n2 at *
  generalize x.neg = neg at *
  clear h1 h2 hs
  go_enter Tryz.func66, Tryz.ntmps66
  go_wp2_with fail
  refine (HP.out _ HK0.out).mono ?_
  rintro e w2 ⟨rfl, hk2⟩
  have HK2 := Lib.hid (HK0.out.trans hk2)
  clear hk2
  go_wp2
  go_ret
  exact ⟨rfl, HK2.out⟩
theorem bad_any (v : Value) (ps : List Rw) (w : World) (hv : RatsAt w v ps) (hs : ∀ x ∈ ps, x.Short 34359738368) : Calls Tryz.prog 31 #[v] w fun e w' => e = .returned (.bool (badR ps)) ∧ Kept w w' := by
  have H := Lib.hid (hasQ_any 66 #[] (enters_of Tryz.func66 (by kernel_rfl) rfl) (fun r => !probR r) v ps w (decides_bad w) hv hs)
  obtain ⟨q, hq⟩ : ∃ q, q = badR ps := ⟨_, rfl⟩
  have H2 : Hid (Calls Tryz.prog 65 #[v, .func (.func 66) #[] #[]] w fun e w' => e = .returned (.bool q) ∧ Kept w w') := Lib.hid (by rw [hq]; exact H.out)
  rw [← hq]
  clear H hq hv hs
  go_enter Tryz.func31, Tryz.ntmps31
  go_wp2_with (go_at_call 65; refine H2.out.mono ?_; rintro e w2 ⟨rfl, hk2⟩)
  go_ret
  exact ⟨rfl, hk2⟩
set_option maxRecDepth 100000 in
set_option maxHeartbeats 2000000 in
theorem refbad_any (v : Value) (ps : List Rw) (w : World) (hv : RatsAt w v ps) (hs : ∀ x ∈ ps, x.Short 34359738368) : Calls Tryz.prog 22 #[v] w fun e w' => e = .returned (.bool (badR ps)) ∧ Kept w w' := by
  obtain ⟨a, c, rfl, ⟨hc, _⟩, hl, hx⟩ := hv
  obtain ⟨n, hn⟩ : ∃ n, n = ps.length := ⟨_, rfl⟩
  have hbig : n ≤ 140737488355328 := by omega
  rw [← hn]
  have HX := Lib.hid hx
  have HN := Lib.hid hn
  have HLT := Lib.hid hs
  clear hx hn hl hc hs
  go_enter Tryz.func22, Tryz.ntmps22
  go_wp2_with fail
  go_loopg [7] n (fun kx i wr => ∃ k : Nat, k ≤ n ∧ i = .int .i64 k ∧ n - k ≤ kx ∧ Hid (∀ x ∈ ps.take k, probR x = true) ∧ Hid (Kept w wr))
  case atStart => exact ⟨0, Nat.zero_le _, rfl, by omega, Lib.hid (by simp), Lib.hid (Kept.refl _)⟩
  case round =>
    obtain ⟨k, hk, rfl, hkx, HF, HK⟩ := hrel
    by_cases hlt : k < n
    · have hkl : k < ps.length := by have := HN.out; omega
      obtain ⟨b, o, u1, u2, rfl, hrg, hw1, hw2⟩ := HX.out k hkl
      have hrg2 := range_same hrg HK.out
      have hxl := HLT.out ps[k] (List.getElem_mem _)
      obtain ⟨x, hxx⟩ : ∃ x, x = ps[k] := ⟨_, rfl⟩
      rw [← hxx] at hrg2 hxl hw1 hw2
      have HXX := Lib.hid hxx
      obtain ⟨a1, c1, rfl⟩ := hw1.shape
      obtain ⟨a2, c2, rfl⟩ := hw2.shape
      have HC : Hid (∀ W, Kept w W → Calls Tryz.prog 23 #[.agg #[.bool x.neg, .slice a1 x.num.length c1, .slice a2 x.den.length c2]] W fun e W' => e = .returned (.bool (probR x)) ∧ Kept W W') := Lib.hid fun W hk => refprob_any _ x W ⟨_, _, rfl, hw1.kept hk, hw2.kept hk⟩ hxl
      generalize x.num.length = n1 at *
      generalize x.den.length = n2 at *
      have HRG : Hid (wr.rangeAt b (o + k * 3) [.bool x.neg, .slice a1 n1 c1, .slice a2 n2 c2]) := Lib.hid hrg2
      have hkn : (k : Int) < (n : Int) := by omega
      clear hrg hrg2 hxx hxl hw1 hw2
      cases hq : probR x with
      | false =>
        rw [hq] at HC
        have HQ := Lib.hid hq
        clear hq
        go_wp2_with (first | (with_reducible refine wpList_load_mid rfl 28 _ rfl b (o + k * 3) rfl _ _ HRG.out Tryz.underlying28 rfl (by kernel_rfl) ?_) | (go_at_call 23; refine (HC.out _ (HK.out.alloc _)).mono ?_; rintro e w' ⟨rfl, hK2⟩))
        go_ret
        have hb : badR ps = true := List.any_eq_true.2 ⟨x, by rw [HXX.out]; exact List.getElem_mem _, by rw [HQ.out]; rfl⟩
        exact ⟨by rw [hb]; rfl, (HK.out.alloc _).trans hK2⟩
      | true =>
        rw [hq] at HC
        have HQ := Lib.hid hq
        clear hq
        go_wp2_with (first | (with_reducible refine wpList_load_mid rfl 28 _ rfl b (o + k * 3) rfl _ _ HRG.out Tryz.underlying28 rfl (by kernel_rfl) ?_) | (go_at_call 23; refine (HC.out _ (HK.out.alloc _)).mono ?_; rintro e w' ⟨rfl, hK2⟩))
        go_roundg (n - (k + 1))
        case measure => omega
        case rel =>
          refine ⟨k + 1, by omega, by go_num, Nat.le_refl _, Lib.hid ?_, Lib.hid ((HK.out.alloc _).trans hK2)⟩
          intro y hy
          rw [List.take_succ_eq_append_getElem hkl] at hy
          rcases List.mem_append.1 hy with hy | hy
          · exact HF.out y hy
          · simp at hy; rw [hy, ← HXX.out]; exact HQ.out
    · have hh := HF.out
      rw [List.take_of_length_le (by have := HN.out; omega)] at hh
      have HB : Hid (badR ps = false) := Lib.hid (by unfold badR; rw [List.any_eq_false]; intro y hy; simp [hh y hy])
      have hkn : ¬ (k : Int) < (n : Int) := by omega
      clear hh
      go_wp2
      go_ret
      exact ⟨by rw [HB.out]; rfl, HK.out⟩
end Go.Proofs.YteodabnjkikogaaGreat

/-
  Elements of sets: sets.Has, Greatest and the reference's Has, Elements, Greatest.
-/
namespace Go.Proofs.YteodabnjkikogaaGreat
open Go.RowKit

/-- The elements of a set, ascending. -/
def elemsK (s : Nat) : List Nat := (List.range 24).filter fun i => s.testBit i
/-- The greatest element, or -1. -/
def gtK (s : Nat) : Int := (Lib.bitLen s : Int) - 1
theorem elems_lt {s i : Nat} (h : i ∈ elemsK s) : i < 24 ∧ s.testBit i = true := by
  have := List.mem_filter.1 h
  exact ⟨by simpa using this.1, this.2⟩
theorem bitLen_topA {x n : Nat} (h1 : 2 ^ n ≤ x) (h2 : x < 2 ^ (n + 1)) (hn : n < 60) : Lib.bitLen x = n + 1 := by
  have h64 : x < 2 ^ 64 := Nat.lt_of_lt_of_le h2 (Nat.pow_le_pow_right (by omega) (by omega))
  have h3 := Lib.bitLen_le x (n + 1) (by omega) h2
  have h4 := bitLen_lt h64
  have h5 : n < Lib.bitLen x := (Nat.pow_lt_pow_iff_right (by omega : 1 < 2)).1 (Nat.lt_of_le_of_lt h1 h4)
  omega
theorem bit_gt {s i : Nat} (hs : s < 16777216) (h : s.testBit i = true) : (i : Int) ≤ gtK s := by
  unfold gtK
  have h1 : 2 ^ i ≤ s := Nat.ge_two_pow_of_testBit h
  have h64 : s < 2 ^ 64 := Nat.lt_of_lt_of_le hs (by decide)
  have h4 := bitLen_lt h64
  have h5 : i < Lib.bitLen s := (Nat.pow_lt_pow_iff_right (by omega : 1 < 2)).1 (Nat.lt_of_le_of_lt h1 h4)
  omega
theorem bit_high {s i : Nat} (hs : s < 16777216) (hi : 24 ≤ i) : s.testBit i = false := by
  cases h : s.testBit i with
  | false => rfl
  | true =>
    exfalso
    have h1 : 2 ^ i ≤ s := Nat.ge_two_pow_of_testBit h
    have h2 : 2 ^ 24 ≤ 2 ^ i := Nat.pow_le_pow_right (by omega) hi
    have e : (2 : Nat) ^ 24 = 16777216 := rfl
    omega
set_option maxRecDepth 100000 in
theorem hasS_any (c i : Nat) (hc : c < 16777216) (w : World) : Calls Tryz.prog 60 #[.int .i64 c, .int .i64 i] w fun e w' => e = .returned (.bool (c.testBit i)) ∧ w' = w := by
  by_cases hi : i < 24
  · have e := bit_val c i hc
    have h1 : (0 : Int) ≤ (i : Int) := by omega
    have h2 : (i : Int) < 24 := by omega
    have E := Lib.hid e
    clear e hc
    go_enter Tryz.func60, Tryz.ntmps60
    go_wp2
    go_ret
    exact ⟨by rw [← E.out]; rfl, rfl⟩
  · rw [bit_high hc (by omega)]
    have h1 : (0 : Int) ≤ (i : Int) := by omega
    have h2 : ¬ (i : Int) < 24 := by omega
    have d2 : decide ((i : Int) < 24) = false := decide_eq_false h2
    clear hc hi
    go_enter Tryz.func60, Tryz.ntmps60
    go_wp2
    go_ret
    exact ⟨by first | rfl | simp, rfl⟩
set_option maxRecDepth 100000 in
theorem hasR05_any (c i : Nat) (hc : c < 16777216) (w : World) : Calls Tryz.prog 151 #[.int .i64 c, .int .i64 i] w fun e w' => e = .returned (.bool (c.testBit i)) ∧ w' = w := by
  by_cases hi : i < 24
  · have e := bit_val c i hc
    have h1 : (0 : Int) ≤ (i : Int) := by omega
    have h2 : (i : Int) < 24 := by omega
    have E := Lib.hid e
    clear e hc
    go_enter Tryz.func151, Tryz.ntmps151
    go_wp2
    go_ret
    exact ⟨by rw [← E.out]; rfl, rfl⟩
  · rw [bit_high hc (by omega)]
    have h1 : (0 : Int) ≤ (i : Int) := by omega
    have h2 : ¬ (i : Int) < 24 := by omega
    have d2 : decide ((i : Int) < 24) = false := decide_eq_false h2
    clear hc hi
    go_enter Tryz.func151, Tryz.ntmps151
    go_wp2
    go_ret
    exact ⟨by first | rfl | simp, rfl⟩
theorem elems_step (s k : Nat) : ((List.range (k + 1)).filter fun i => s.testBit i) = ((List.range k).filter fun i => s.testBit i) ++ (if s.testBit k then [k] else []) := by
  rw [List.range_succ, List.filter_append]
  congr 1
  cases h : s.testBit k <;> simp [h]
theorem elems_len (s n : Nat) : ((List.range n).filter fun i => s.testBit i).length ≤ n := by
  have := List.length_filter_le (fun i => s.testBit i) (List.range n)
  simpa using this
set_option maxRecDepth 100000 in
set_option maxHeartbeats 2000000 in
theorem elems_any (s : Nat) (hs : s < 16777216) (w : World) : Calls Tryz.prog 95 #[.int .i64 s] w fun e w' => (∃ v, e = .returned v ∧ IntsAt w' v (ofN (elemsK s))) ∧ Kept w w' := by
  have HH := Lib.hid (fun (i : Nat) W => hasR05_any s i hs W)
  clear hs
  go_enter Tryz.func95, Tryz.ntmps95
  go_wp2_with fail
  go_loopg [3, 5] 24 (fun kx s3 s5 wr => ∃ k : Nat, k ≤ 24 ∧ s5 = .int .i64 k ∧ 24 - k ≤ kx ∧ Hid (OwnInts wr w.heap.size s3 (ofN ((List.range k).filter fun i => s.testBit i))) ∧ Hid (Kept w wr))
  case atStart => exact ⟨0, Nat.zero_le _, rfl, by omega, Lib.hid (OwnInts.nil _ _), Lib.hid (Kept.refl _)⟩
  case round =>
    obtain ⟨k, hk, rfl, hkx, HO, HK⟩ := hrel
    obtain ⟨a3, n3, c3, rfl⟩ := HO.out.ints.shape
    by_cases hlt : k < 24
    · have hkn : (k : Int) < 24 := by omega
      have HST := Lib.hid (elems_step s k)
      have HLN := Lib.hid (elems_len s k)
      cases hb : s.testBit k with
      | false =>
        have HC : Hid (∀ W, Calls Tryz.prog 151 #[.int .i64 s, .int .i64 k] W fun e w' => e = .returned (.bool false) ∧ w' = W) := Lib.hid fun W => by have h := HH.out k W; rw [hb] at h; exact h
        rw [hb] at HST
        clear hb
        go_wp2_with (go_at_call 151; refine (HC.out _).mono ?_; rintro e w2 ⟨rfl, rfl⟩)
        go_roundg (24 - (k + 1))
        case measure => omega
        case rel => exact ⟨k + 1, by omega, by go_num, Nat.le_refl _, Lib.hid (by rw [HST.out]; simpa using HO.out), HK⟩
      | true =>
        have HC : Hid (∀ W, Calls Tryz.prog 151 #[.int .i64 s, .int .i64 k] W fun e w' => e = .returned (.bool true) ∧ w' = W) := Lib.hid fun W => by have h := HH.out k W; rw [hb] at h; exact h
        rw [hb] at HST
        obtain ⟨L, hL⟩ : ∃ L, L = ((List.range k).filter fun i => s.testBit i) := ⟨_, rfl⟩
        rw [← hL] at HO HLN HST
        clear hb hL
        go_wp2_with (first
          | (go_at_call 151; refine (HC.out _).mono ?_; rintro e w2 ⟨rfl, rfl⟩)
          | (at_builtin; refine app_int rfl _ _ rfl w.heap.size _ (ofN L) rfl (HO.out.kept ((Kept.refl _).alloc _)) _ (k : Int) rfl (by simp) (by have := HLN.out; unfold ofN; rw [List.length_map]; omega) (by have := HK.out.size; simp; omega) ?_; intro v' w' h5 _ h6; have H5 := Lib.hid h5; have H6 := Lib.hid h6; clear h5 h6))
        obtain ⟨a5, n5, c5, rfl⟩ := H5.out.ints.shape
        go_roundg (24 - (k + 1))
        case measure => omega
        case rel => exact ⟨k + 1, by omega, by go_num, Nat.le_refl _, Lib.hid (by rw [HST.out]; simpa [ofN] using H5.out), Lib.hid ((HK.out.alloc _).app H6.out)⟩
    · have hke : k = 24 := by omega
      have HE : Hid (OwnInts wr w.heap.size (.slice a3 n3 c3) (ofN (elemsK s))) := Lib.hid (by have h := HO.out; rw [hke] at h; exact h)
      have hkn : ¬ (k : Int) < 24 := by omega
      clear hke
      go_wp2
      go_ret
      exact ⟨⟨_, rfl, HE.out.ints⟩, HK.out⟩
end Go.Proofs.YteodabnjkikogaaGreat

/-
  A fraction in a variable's cells; truncate.product, faultlineref35.Product.
-/
namespace Go.Proofs.YteodabnjkikogaaGreat
open Go.RowKit

theorem FixAt.store {w : World} {g : Nat} {xs : List Value} (h : FixAt w g xs) (i : Nat) (u : Value) : FixAt (w.setCell ⟨g, i, none⟩ u) g (xs.set i u) := by
  obtain ⟨cur, e, h1, h2⟩ := h
  refine ⟨cur.setIfInBounds i u, e, by simp [World.setCell, Array.getElem?_modify, h1], ?_⟩
  rw [Array.toList_setIfInBounds, h2]
/-- A variable that holds a fraction. -/
def RatCell (w : World) (g : Nat) (r : Rw) : Prop := ∃ a1 c1 a2 c2, RowAt w g 28 [.bool r.neg, .slice a1 r.num.length c1, .slice a2 r.den.length c2] ∧ FixAt w g [.bool r.neg, .slice a1 r.num.length c1, .slice a2 r.den.length c2] ∧ WdsAt w (.slice a1 r.num.length c1) r.num ∧ WdsAt w (.slice a2 r.den.length c2) r.den
theorem RatCell.kept {w w' : World} {g : Nat} {r : Rw} (h : RatCell w g r) (hk : Kept w w') : RatCell w' g r := by
  obtain ⟨a1, c1, a2, c2, h1, h2, h3, h4⟩ := h
  exact ⟨a1, c1, a2, c2, h1.kept hk, h2.kept hk, h3.kept hk, h4.kept hk⟩
theorem RatCell.made {w : World} {r : Rw} {a1 a2 : Option Addr} {c1 c2 : Nat} (h1 : WdsAt w (.slice a1 r.num.length c1) r.num) (h2 : WdsAt w (.slice a2 r.den.length c2) r.den) :
    RatCell (w.alloc (.cells #[.bool r.neg, .slice a1 r.num.length c1, .slice a2 r.den.length c2] 28)) w.heap.size r :=
  ⟨a1, c1, a2, c2, RowAt.made w #[.bool r.neg, .slice a1 r.num.length c1, .slice a2 r.den.length c2] 28, FixAt.made w #[.bool r.neg, .slice a1 r.num.length c1, .slice a2 r.den.length c2] 28, h1.kept ((Kept.refl _).alloc _), h2.kept ((Kept.refl _).alloc _)⟩
theorem RatCell.store {w : World} {g : Nat} {r r' : Rw} {a1 a2 : Option Addr} {c1 c2 : Nat} (h : RatCell w g r) (h1 : WdsAt w (.slice a1 r'.num.length c1) r'.num) (h2 : WdsAt w (.slice a2 r'.den.length c2) r'.den) :
    RatCell (((w.setCell ⟨g, 0, none⟩ (.bool r'.neg)).setCell ⟨g, 1, none⟩ (.slice a1 r'.num.length c1)).setCell ⟨g, 2, none⟩ (.slice a2 r'.den.length c2)) g r' := by
  obtain ⟨a3, c3, a4, c4, h3, h4, _, _⟩ := h
  have hr := ((h3.store 0 (.bool r'.neg)).store 1 (.slice a1 r'.num.length c1)).store 2 (.slice a2 r'.den.length c2)
  have hf := ((h4.store 0 (.bool r'.neg)).store 1 (.slice a1 r'.num.length c1)).store 2 (.slice a2 r'.den.length c2)
  simp only [List.set_cons_zero, List.set_cons_succ] at hr hf
  have hO := (((OnlyAt.refl g w).store 0 (.bool r'.neg)).store 1 (.slice a1 r'.num.length c1)).store 2 (.slice a2 r'.den.length c2)
  exact ⟨a1, c1, a2, c2, hr, hf, h1.apart h4 (by simp) hO, h2.apart h4 (by simp) hO⟩
theorem RatCell.at {w : World} {g : Nat} {r : Rw} (h : RatCell w g r) : ∃ a1 c1 a2 c2, (w.cell? ⟨g, 0, none⟩ = some (.bool r.neg) ∧ w.cell? ⟨g, 1, none⟩ = some (.slice a1 r.num.length c1) ∧ w.cell? ⟨g, 2, none⟩ = some (.slice a2 r.den.length c2)) ∧ (w.frozen? ⟨g, 0, none⟩ = false ∧ w.frozen? ⟨g, 1, none⟩ = false ∧ w.frozen? ⟨g, 2, none⟩ = false) ∧ g < w.heap.size ∧ RatAt w (.agg #[.bool r.neg, .slice a1 r.num.length c1, .slice a2 r.den.length c2]) r := by
  obtain ⟨a1, c1, a2, c2, h1, h2, h3, h4⟩ := h
  refine ⟨a1, c1, a2, c2, ⟨?_, ?_, ?_⟩, ⟨h1.free 0, h1.free 1, h1.free 2⟩, h1.lt, _, _, rfl, h3, h4⟩
  · have := h1.cell (i := 0) (by simp); simpa using this
  · have := h1.cell (i := 1) (by simp); simpa using this
  · have := h1.cell (i := 2) (by simp); simpa using this
/-- The product of the probabilities of the events below n of a set. -/
def prodQ (s : Nat) (ps : List Rw) : Nat → Rat
  | 0 => 1
  | k + 1 => if s.testBit k = true then prodQ s ps k * ratOf (ps.getD k default) else prodQ s ps k
theorem prodQ_succ (s : Nat) (ps : List Rw) (k : Nat) : prodQ s ps (k + 1) = if s.testBit k = true then prodQ s ps k * ratOf (ps.getD k default) else prodQ s ps k := rfl
theorem prodQ_high {s : Nat} {ps : List Rw} {n m : Nat} (h : ∀ i, n ≤ i → s.testBit i = false) (hm : n ≤ m) : prodQ s ps m = prodQ s ps n := by
  induction m with
  | zero => rw [show n = 0 by omega]
  | succ m ih =>
    by_cases he : n = m + 1
    · rw [he]
    · rw [prodQ_succ, if_neg (by rw [h m (by omega)]; simp)]
      exact ih (by omega)
theorem prodQ_elems (s : Nat) (ps : List Rw) : ∀ n, ((List.range n).filter fun i => s.testBit i).foldl (fun (q : Rat) (i : Nat) => q * ratOf (ps.getD i default)) 1 = prodQ s ps n := by
  intro n
  induction n with
  | zero => rfl
  | succ n ih =>
    rw [elems_step, List.foldl_append, ih, prodQ_succ]
    cases h : s.testBit n <;> rfl
/-- How long products become. -/
theorem prod_short {s : Nat} {ps : List Rw} (hs : ∀ r ∈ ps, r.Short 3) (hok : ∀ r ∈ ps, r.Ok) : ∀ n, n ≤ ps.length → (canR (prodQ s ps n)).Short (3 * n + 1) := by
  intro n
  induction n with
  | zero => intro _; exact one_short
  | succ n ih =>
    intro hn
    have ih := ih (by omega)
    have hx : ps.getD n default = ps[n] := by simp [List.getD_eq_getElem?_getD, show n < ps.length by omega]
    rw [prodQ_succ]
    split
    · have h := short_mul (canR_ok (prodQ s ps n)) (hok _ (List.getElem_mem (show n < ps.length by omega))) ih (hs _ (List.getElem_mem (show n < ps.length by omega))) (by omega) (by omega)
      rw [ratOf_can, ← hx] at h
      exact ⟨Nat.le_trans h.1 (by omega), Nat.le_trans h.2 (by omega)⟩
    · exact ⟨Nat.le_trans ih.1 (by omega), Nat.le_trans ih.2 (by omega)⟩
theorem RatsAt.ok {w : World} {v : Value} {ps : List Rw} (h : RatsAt w v ps) : ∀ r ∈ ps, r.Ok := by
  obtain ⟨a, c, _, _, _, h4⟩ := h
  intro r hr
  obtain ⟨i, hi, rfl⟩ := List.getElem_of_mem hr
  obtain ⟨_, _, _, _, _, _, h7, h8⟩ := h4 i hi
  exact ⟨h7.wd, h8.wd⟩
set_option maxRecDepth 100000 in
set_option maxHeartbeats 4000000 in
theorem product_rat (s : Nat) (v : Value) (ps : List Rw) (w : World) (hs : s < 16777216) (hv : RatsAt w v ps) (hp3 : ∀ r ∈ ps, r.Short 3) (hp30 : ps.length ≤ 30) :
    Calls Tryz.prog 35 #[.int .i64 s, v] w fun e w' => (∃ v', e = .returned v' ∧ RatAt w' v' (canR (prodQ s ps ps.length))) ∧ Kept w w' := by
  have HOF : Hid (∀ W, Calls Tryz.prog 59 #[.int .i64 1] W fun e w' => (∃ v', e = .returned v' ∧ RatAt w' v' (canR (prodQ s ps 0))) ∧ Kept W w') := Lib.hid fun W => rof_any 1 W (by omega) (by omega)
  have HH := Lib.hid (fun (i : Nat) W => hasS_any s i hs W)
  have HSH := Lib.hid (fun n hn => prod_short (s := s) hp3 hv.ok n hn)
  have HV := Lib.hid hv
  have HP3 := Lib.hid hp3
  obtain ⟨a, c, rfl⟩ := hv.shape
  obtain ⟨n, hn⟩ : ∃ n, n = ps.length := ⟨_, rfl⟩
  rw [← hn] at HV hp30 ⊢
  have HN := Lib.hid hn
  obtain ⟨R, hR⟩ : ∃ R, R = canR (prodQ s ps n) := ⟨_, rfl⟩
  rw [← hR]
  have HRR := Lib.hid hR
  clear hR
  obtain ⟨w2, hw2⟩ : ∃ w2, w2 = w.alloc (.cells #[.bool false, .slice none 0 0, .slice none 0 0] 28) := ⟨_, rfl⟩
  have HR : Hid (RowAt w2 w.heap.size 28 [.bool false, .slice none 0 0, .slice none 0 0]) := Lib.hid (by rw [hw2]; exact RowAt.made w #[.bool false, .slice none 0 0, .slice none 0 0] 28)
  have HFX : Hid (FixAt w2 w.heap.size [.bool false, .slice none 0 0, .slice none 0 0]) := Lib.hid (by rw [hw2]; exact FixAt.made w #[.bool false, .slice none 0 0, .slice none 0 0] 28)
  have HK0 : Hid (Kept w w2) := Lib.hid (by rw [hw2]; exact (Kept.refl w).alloc _)
  have HW2 := Lib.hid hw2
  clear hn hv hp3 hs hw2
  go_enter Tryz.func35, Tryz.ntmps35
  go_wp2_with fail
  rw [← HW2.out]
  refine (HOF.out _).mono ?_
  rintro e w3 ⟨⟨v3, rfl, hv3⟩, hk3⟩
  have HR3 := Lib.hid (HR.out.kept hk3)
  have HF3 := Lib.hid (HFX.out.kept hk3)
  have HK3 := Lib.hid (HK0.out.trans hk3)
  obtain ⟨u1, u2, rfl, h1, h2⟩ := hv3
  obtain ⟨a1, c1, rfl⟩ := h1.shape
  obtain ⟨a2, c2, rfl⟩ := h2.shape
  have HC := Lib.hid (RatCell.made h1 h2)
  obtain ⟨w4, hw4⟩ : ∃ w4, w4 = w3.alloc (.cells #[.bool (canR (prodQ s ps 0)).neg, .slice a1 (canR (prodQ s ps 0)).num.length c1, .slice a2 (canR (prodQ s ps 0)).den.length c2] 28) := ⟨_, rfl⟩
  have HW4 := Lib.hid hw4
  rw [← hw4] at HC
  have HK4 : Hid (Kept w3 w4) := Lib.hid (by rw [hw4]; exact (Kept.refl _).alloc _)
  generalize (canR (prodQ s ps 0)).neg = b0 at *
  generalize (canR (prodQ s ps 0)).num.length = l1 at *
  generalize (canR (prodQ s ps 0)).den.length = l2 at *
  clear h1 h2 hk3 hw4
  go_wp2_with fail
  rw [← HW4.out]
  go_loopg [10] n (fun kx s10 wr => ∃ k : Nat, k ≤ n ∧ s10 = .int .i64 k ∧ n - k ≤ kx ∧ Hid (RatCell wr w3.heap.size (canR (prodQ s ps k))) ∧ Hid (Kept w3 wr))
  case atStart => exact ⟨0, Nat.zero_le _, rfl, by omega, HC, HK4⟩
  case round =>
    obtain ⟨k, hk, rfl, hkx, HX, HKr⟩ := hrel
    by_cases hlt : k < n
    · have hkn : (k : Int) < (n : Int) := by omega
      cases hb : s.testBit k with
      | false =>
        have HCH : Hid (∀ W, Calls Tryz.prog 60 #[.int .i64 s, .int .i64 k] W fun e w' => e = .returned (.bool false) ∧ w' = W) := Lib.hid fun W => by have h := HH.out k W; rw [hb] at h; exact h
        have HST : Hid (prodQ s ps (k + 1) = prodQ s ps k) := Lib.hid (by rw [prodQ_succ, if_neg (by rw [hb]; simp)])
        clear hb
        go_wp2_with (go_at_call 60; refine (HCH.out _).mono ?_; rintro e w5 ⟨rfl, rfl⟩)
        go_roundg (n - (k + 1))
        case measure => omega
        case rel => exact ⟨k + 1, by omega, by go_num, Nat.le_refl _, Lib.hid (by rw [HST.out]; exact HX.out), HKr⟩
      | true =>
        have HCH : Hid (∀ W, Calls Tryz.prog 60 #[.int .i64 s, .int .i64 k] W fun e w' => e = .returned (.bool true) ∧ w' = W) := Lib.hid fun W => by have h := HH.out k W; rw [hb] at h; exact h
        have HST : Hid (canR (prodQ s ps (k + 1)) = canR (ratOf (canR (prodQ s ps k)) * ratOf (ps.getD k default))) := Lib.hid (by rw [prodQ_succ, if_pos hb, ratOf_can])
        have hkl : k < ps.length := by have := HN.out; omega
        have hsk := HSH.out k (by have := HN.out; omega)
        have hx3 : (ps.getD k default).Short 3 := by
          have e : ps.getD k default = ps[k] := by simp [List.getD_eq_getElem?_getD, hkl]
          rw [e]; exact HP3.out _ (List.getElem_mem _)
        obtain ⟨b, o, u1, u2, rfl, hrg, hw1, hw2⟩ := HV.out.get k hkl
        obtain ⟨a3, c3, rfl⟩ := hw1.shape
        obtain ⟨a4, c4, rfl⟩ := hw2.shape
        have HKw := Lib.hid (HK3.out.trans HKr.out)
        have hrg2 := range_same hrg HKw.out
        have y0 := hrg2 0 _ rfl
        have y1 := hrg2 1 _ rfl
        have y2 := hrg2 2 _ rfl
        rw [Nat.add_zero] at y0
        obtain ⟨a5, c5, a6, c6, ⟨x0, x1, x2⟩, ⟨f0, f1, f2⟩, hgl, hxa⟩ := HX.out.at
        have HML : Hid (∀ W, Kept wr W → Calls Tryz.prog 61 #[.agg #[.bool (canR (prodQ s ps k)).neg, .slice a5 (canR (prodQ s ps k)).num.length c5, .slice a6 (canR (prodQ s ps k)).den.length c6], .agg #[.bool (ps.getD k default).neg, .slice a3 (ps.getD k default).num.length c3, .slice a4 (ps.getD k default).den.length c4]] W fun e w' => (∃ v', e = .returned v' ∧ RatAt w' v' (canR (prodQ s ps (k + 1)))) ∧ Kept W w') := Lib.hid fun W hk => by
          rw [HST.out]
          exact rmul_any _ _ _ _ W (hxa.kept hk) ⟨_, _, rfl, hw1.kept (HKw.out.trans hk), hw2.kept (HKw.out.trans hk)⟩ ⟨Nat.le_trans hsk.1 (by omega), Nat.le_trans hsk.2 (by omega)⟩ ⟨Nat.le_trans hx3.1 (by omega), Nat.le_trans hx3.2 (by omega)⟩
        generalize (ps.getD k default).neg = z0 at *
        generalize (ps.getD k default).num.length = z1 at *
        generalize (ps.getD k default).den.length = z2 at *
        generalize (canR (prodQ s ps k)).neg = z3 at *
        generalize (canR (prodQ s ps k)).num.length = z4 at *
        generalize (canR (prodQ s ps k)).den.length = z5 at *
        clear hb hsk hx3 hrg hrg2 hw1 hw2 hxa hkl
        go_wp2_with (go_at_call 60; refine (HCH.out _).mono ?_; rintro e w5 ⟨rfl, rfl⟩)
        go_region_with (go_at_call 61; (with_reducible refine (HML.out _ (Kept.refl _).drew).mono ?_); rintro e w6 ⟨⟨v6, rfl, hv6⟩, hk6⟩; have hkd := (Kept.refl _).drew.trans hk6; have HX6 := Lib.hid (HX.out.kept hkd); have HK6 := Lib.hid (HKr.out.trans hkd); obtain ⟨u7, u8, rfl, k7, k8⟩ := hv6; obtain ⟨a7, c7, rfl⟩ := k7.shape; obtain ⟨a8, c8, rfl⟩ := k8.shape; have K7 := Lib.hid k7; have K8 := Lib.hid k8; obtain ⟨_, _, _, _, ⟨i0, i1, i2⟩, ⟨j0, j1, j2⟩, hgl6, _⟩ := HX6.out.at; clear k7 k8 hk6 hkd)
        all_goals
          have HS := Lib.hid (HX6.out.store K7.out K8.out)
          generalize (canR (prodQ s ps (k + 1))).num.length = n7 at *
          generalize (canR (prodQ s ps (k + 1))).den.length = n8 at *
          go_wp2_with fail
          go_roundg (n - (k + 1))
          case measure => omega
          case rel => exact ⟨k + 1, by omega, by go_num, Nat.le_refl _, HS, Lib.hid (((HK6.out.store (Nat.le_refl _) _ _).store (Nat.le_refl _) _ _).store (Nat.le_refl _) _ _)⟩
    · have hke : k = n := by omega
      have hkn : ¬ (k : Int) < (n : Int) := by omega
      have HX2 : Hid (RatCell wr w3.heap.size R) := Lib.hid (by rw [HRR.out, ← hke]; exact HX.out)
      have hrr := HR3.out.kept HKr.out
      have HFF := Lib.hid (HF3.out.kept HKr.out)
      obtain ⟨a5, c5, a6, c6, ⟨x0, x1, x2⟩, _, hgl, u7, u8, e9, k7, k8⟩ := HX2.out.at
      simp only [Value.agg.injEq] at e9
      have e9' := congrArg Array.toList e9
      simp at e9'
      obtain ⟨rfl, rfl⟩ := e9'
      obtain ⟨y0, y1, y2, hra⟩ := rat_stored hrr HFF.out k7 k8
      have g0 := hrr.cell (i := 0) (by simp)
      have g1 := hrr.cell (i := 1) (by simp)
      have g2 := hrr.cell (i := 2) (by simp)
      have f0 := hrr.free 0
      have f1 := hrr.free 1
      have f2 := hrr.free 2
      have HRA := Lib.hid hra
      have Y0 := Lib.hid y0
      have Y1 := Lib.hid y1
      have Y2 := Lib.hid y2
      have HKw := Lib.hid (HK3.out.trans HKr.out)
      clear hra y0 y1 y2 k7 k8 hrr e9 hke
      generalize R.num.length = n7 at *
      generalize R.den.length = n8 at *
      go_wp2
      refine bodyPost_ret (v := .agg #[.bool R.neg, .slice a5 n7 c5, .slice a6 n8 c6]) ?_ rfl ⟨⟨_, rfl, HRA.out⟩, ?_⟩
      · simp [results, Tryz.results35, go_sem, Y0.out, Y1.out, Y2.out]
      · exact ((HKw.out.store (Nat.le_refl _) _ _).store (Nat.le_refl _) _ _).store (Nat.le_refl _) _ _
end Go.Proofs.YteodabnjkikogaaGreat

/-
  Walk: faultlineref35.Product.
-/
namespace Go.Proofs.YteodabnjkikogaaGreat
open Go.RowKit

theorem IntsAt.apart {w w' : World} {g : Nat} {v : Value} {xs : List Int} {row : List Value} (h : IntsAt w v xs) (hr : FixAt w g row) (hn : ∀ k x, Value.int k x ∉ row) (ho : OnlyAt g w w') : IntsAt w' v xs := by
  obtain ⟨a, c, h1, h2, h3, h5⟩ := h
  refine ⟨a, c, h1, h2, h3, fun i hi => ?_⟩
  obtain ⟨b, o, h6, h7⟩ := h5 i hi
  refine ⟨b, o, h6, ?_⟩
  have hne : b ≠ g := fun e => by
    subst e
    exact hn _ _ (hr.only h7)
  have hlt : b < w.heap.size := World.block_lt_of_cell? w _ h7
  have := ho.block b hlt hne
  simp only [World.cell?, this] at h7 ⊢
  exact h7
/-- Ints are not touched by a store into a fraction's cells. -/
theorem RatCell.ints {w : World} {g : Nat} {r : Rw} (h : RatCell w g r) {v : Value} {xs : List Int} (hv : IntsAt w v xs) (u0 u1 u2 : Value) : IntsAt (((w.setCell ⟨g, 0, none⟩ u0).setCell ⟨g, 1, none⟩ u1).setCell ⟨g, 2, none⟩ u2) v xs := by
  obtain ⟨a3, c3, a4, c4, h3, h4, _, _⟩ := h
  exact hv.apart h4 (by simp) ((((OnlyAt.refl g w).store 0 u0).store 1 u1).store 2 u2)
/-- The product over the first elements of a list. -/
def prodE (L : List Nat) (ps : List Rw) (j : Nat) : Rat := (L.take j).foldl (fun (q : Rat) (i : Nat) => q * ratOf (ps.getD i default)) 1
theorem prodE_succ {L : List Nat} (ps : List Rw) {j : Nat} (h : j < L.length) : prodE L ps (j + 1) = prodE L ps j * ratOf (ps.getD L[j] default) := by
  unfold prodE
  rw [List.take_succ_eq_append_getElem h, List.foldl_append]
  rfl
theorem prodE_all {s : Nat} {ps : List Rw} (hs : s < 16777216) (hg : gtK s < (ps.length : Int)) : prodE (elemsK s) ps (elemsK s).length = prodQ s ps ps.length := by
  have h0 : ∀ i, Lib.bitLen s ≤ i → s.testBit i = false := fun i hi => by
    cases h : s.testBit i with
    | false => rfl
    | true =>
      exfalso
      have := bit_gt hs h
      unfold gtK at this
      omega
  have h24 : Lib.bitLen s ≤ 24 := Lib.bitLen_le s 24 (by omega) (by rw [show (2 : Nat) ^ 24 = 16777216 from rfl]; exact hs)
  have hl : Lib.bitLen s ≤ ps.length := by unfold gtK at hg; omega
  unfold prodE
  rw [List.take_length]
  unfold elemsK
  rw [prodQ_elems, prodQ_high h0 h24, prodQ_high h0 hl]
theorem prodE_short {L : List Nat} {ps : List Rw} (hL : ∀ i ∈ L, i < ps.length) (hs : ∀ r ∈ ps, r.Short 3) (hok : ∀ r ∈ ps, r.Ok) : ∀ j, j ≤ L.length → (canR (prodE L ps j)).Short (3 * j + 1) := by
  intro n
  induction n with
  | zero => intro _; exact one_short
  | succ n ih =>
    intro hn
    have ih := ih (by omega)
    have hi := hL _ (List.getElem_mem (show n < L.length by omega))
    have hx : ps.getD L[n] default = ps[L[n]] := by simp [List.getD_eq_getElem?_getD, hi]
    rw [prodE_succ ps (show n < L.length by omega)]
    have h := short_mul (canR_ok (prodE L ps n)) (hok _ (List.getElem_mem hi)) ih (hs _ (List.getElem_mem hi)) (by omega) (by omega)
    rw [ratOf_can, ← hx] at h
    exact ⟨Nat.le_trans h.1 (by omega), Nat.le_trans h.2 (by omega)⟩
set_option maxRecDepth 100000 in
set_option maxHeartbeats 4000000 in
theorem refproduct_any (s : Nat) (v : Value) (ps : List Rw) (w : World) (hs : s < 16777216) (hv : RatsAt w v ps) (hp3 : ∀ r ∈ ps, r.Short 3) (hg : gtK s < (ps.length : Int)) :
    Calls Tryz.prog 46 #[v, .int .i64 s] w fun e w' => (∃ v', e = .returned v' ∧ RatAt w' v' (canR (prodQ s ps ps.length))) ∧ Kept w w' := by
  have HOF : Hid (∀ W, Calls Tryz.prog 56 #[.int .i64 1] W fun e w' => (∃ v', e = .returned v' ∧ RatAt w' v' (canR (prodE (elemsK s) ps 0))) ∧ Kept W w') := Lib.hid fun W => refof_any 1 W (by omega)
  have HEL := Lib.hid (fun W => elems_any s hs W)
  have HPA := Lib.hid (prodE_all hs hg)
  have hLl : (elemsK s).length ≤ 24 := elems_len s 24
  have hLt : ∀ i ∈ elemsK s, i < ps.length := fun i hi => by
    have h1 := bit_gt hs (elems_lt hi).2
    omega
  obtain ⟨L, hL⟩ : ∃ L, L = elemsK s := ⟨_, rfl⟩
  rw [← hL] at HOF HEL HPA hLl hLt
  have HSH := Lib.hid (fun j hj => prodE_short hLt hp3 hv.ok j hj)
  have HLT := Lib.hid hLt
  have HV := Lib.hid hv
  have HP3 := Lib.hid hp3
  obtain ⟨a, c, rfl⟩ := hv.shape
  obtain ⟨m, hm⟩ : ∃ m, m = ps.length := ⟨_, rfl⟩
  rw [← hm] at HV ⊢
  have HM := Lib.hid hm
  obtain ⟨R, hR⟩ : ∃ R, R = canR (prodQ s ps m) := ⟨_, rfl⟩
  rw [← hR]
  have HRR : Hid (R = canR (prodE L ps L.length)) := Lib.hid (by rw [hR, hm, HPA.out])
  obtain ⟨n, hn⟩ : ∃ n, n = L.length := ⟨_, rfl⟩
  rw [← hn] at HRR hLl
  have HN := Lib.hid hn
  clear hR hm hn hL hLt
  obtain ⟨w2, hw2⟩ : ∃ w2, w2 = w.alloc (.cells #[.bool false, .slice none 0 0, .slice none 0 0] 28) := ⟨_, rfl⟩
  have HR : Hid (RowAt w2 w.heap.size 28 [.bool false, .slice none 0 0, .slice none 0 0]) := Lib.hid (by rw [hw2]; exact RowAt.made w #[.bool false, .slice none 0 0, .slice none 0 0] 28)
  have HFX : Hid (FixAt w2 w.heap.size [.bool false, .slice none 0 0, .slice none 0 0]) := Lib.hid (by rw [hw2]; exact FixAt.made w #[.bool false, .slice none 0 0, .slice none 0 0] 28)
  have HK0 : Hid (Kept w w2) := Lib.hid (by rw [hw2]; exact (Kept.refl w).alloc _)
  have HW2 := Lib.hid hw2
  clear hv hp3 hs hw2 hg
  go_enter Tryz.func46, Tryz.ntmps46
  go_wp2_with fail
  rw [← HW2.out]
  refine (HOF.out _).mono ?_
  rintro e w3 ⟨⟨v3, rfl, hv3⟩, hk3⟩
  have HR3 := Lib.hid (HR.out.kept hk3)
  have HF3 := Lib.hid (HFX.out.kept hk3)
  have HK3 := Lib.hid (HK0.out.trans hk3)
  obtain ⟨u1, u2, rfl, h1, h2⟩ := hv3
  obtain ⟨a1, c1, rfl⟩ := h1.shape
  obtain ⟨a2, c2, rfl⟩ := h2.shape
  have HC := Lib.hid (RatCell.made h1 h2)
  obtain ⟨w4, hw4⟩ : ∃ w4, w4 = w3.alloc (.cells #[.bool (canR (prodE L ps 0)).neg, .slice a1 (canR (prodE L ps 0)).num.length c1, .slice a2 (canR (prodE L ps 0)).den.length c2] 28) := ⟨_, rfl⟩
  have HW4 := Lib.hid hw4
  rw [← hw4] at HC
  have HK4 : Hid (Kept w3 w4) := Lib.hid (by rw [hw4]; exact (Kept.refl _).alloc _)
  generalize (canR (prodE L ps 0)).neg = b0 at *
  generalize (canR (prodE L ps 0)).num.length = l1 at *
  generalize (canR (prodE L ps 0)).den.length = l2 at *
  clear h1 h2 hk3 hw4
  go_wp2_with fail
  rw [← HW4.out]
  refine (HEL.out _).mono ?_
  rintro e w5 ⟨⟨v5, rfl, hv5⟩, hk5⟩
  have HC5 := Lib.hid (HC.out.kept hk5)
  have HK5 := Lib.hid (HK4.out.trans hk5)
  have hnL : n = (ofN L).length := by rw [HN.out]; unfold ofN; rw [List.length_map]
  obtain ⟨ae, ce, rfl, _⟩ := id hv5
  rw [← hnL] at hv5 ⊢
  have HXE := Lib.hid hv5
  have HNL := Lib.hid hnL
  clear hk5 hv5 hnL
  go_wp2_with fail
  go_loopg [12] n (fun kx s10 wr => ∃ k : Nat, k ≤ n ∧ s10 = .int .i64 k ∧ n - k ≤ kx ∧ Hid (RatCell wr w3.heap.size (canR (prodE L ps k))) ∧ Hid (Kept w3 wr) ∧ Hid (IntsAt wr (.slice ae n ce) (ofN L)))
  case atStart => exact ⟨0, Nat.zero_le _, rfl, by omega, HC5, HK5, HXE⟩
  case round =>
    obtain ⟨k, hk, rfl, hkx, HX, HKr, HXI⟩ := hrel
    by_cases hlt : k < n
    · have hkn : (k : Int) < (n : Int) := by omega
      have hkL : k < L.length := by have := HN.out; omega
      obtain ⟨i, hi⟩ : ∃ i, i = L[k] := ⟨_, rfl⟩
      have hil : i < m := by rw [hi, HM.out]; exact HLT.out _ (List.getElem_mem _)
      obtain ⟨ae', ce', he1, _, _, he2⟩ := HXI.out
      injection he1 with he3 he4 he5
      subst he3
      obtain ⟨be, oe, rfl, hce⟩ := he2 k (by rw [← HNL.out]; exact hlt)
      have e1 : (ofN L)[k]'(by rw [← HNL.out]; exact hlt) = (i : Int) := by rw [hi]; simp [ofN]
      rw [e1] at hce
      have HST : Hid (canR (prodE L ps (k + 1)) = canR (ratOf (canR (prodE L ps k)) * ratOf (ps.getD i default))) := Lib.hid (by rw [prodE_succ ps hkL, ratOf_can, hi])
      have hil' : (i : Int) < (m : Int) := by omega
      have hi0 : (0 : Int) ≤ (i : Int) := by omega
      clear e1 hi hkL he2 he4 he5
      have hkl : i < ps.length := by have := HM.out; omega
      have hsk := HSH.out k (by have := HN.out; omega)
      have hx3 : (ps.getD i default).Short 3 := by
        have e : ps.getD i default = ps[i] := by simp [List.getD_eq_getElem?_getD, hkl]
        rw [e]; exact HP3.out _ (List.getElem_mem _)
      obtain ⟨b, o, u1, u2, rfl, hrg, hw1, hw2⟩ := HV.out.get i hkl
      obtain ⟨a3, c3, rfl⟩ := hw1.shape
      obtain ⟨a4, c4, rfl⟩ := hw2.shape
      have HKw := Lib.hid (HK3.out.trans HKr.out)
      have hrg2 := range_same hrg HKw.out
      have y0 := hrg2 0 _ rfl
      have y1 := hrg2 1 _ rfl
      have y2 := hrg2 2 _ rfl
      rw [Nat.add_zero] at y0
      obtain ⟨a5, c5, a6, c6, ⟨x0, x1, x2⟩, ⟨f0, f1, f2⟩, hgl, hxa⟩ := HX.out.at
      have HML : Hid (∀ W, Kept wr W → Calls Tryz.prog 102 #[.agg #[.bool (canR (prodE L ps k)).neg, .slice a5 (canR (prodE L ps k)).num.length c5, .slice a6 (canR (prodE L ps k)).den.length c6], .agg #[.bool (ps.getD i default).neg, .slice a3 (ps.getD i default).num.length c3, .slice a4 (ps.getD i default).den.length c4]] W fun e w' => (∃ v', e = .returned v' ∧ RatAt w' v' (canR (prodE L ps (k + 1)))) ∧ Kept W w') := Lib.hid fun W hk => by
        rw [HST.out]
        exact refmul02_any _ _ _ _ W (hxa.kept hk) ⟨_, _, rfl, hw1.kept (HKw.out.trans hk), hw2.kept (HKw.out.trans hk)⟩ ⟨Nat.le_trans hsk.1 (by omega), Nat.le_trans hsk.2 (by omega)⟩ ⟨Nat.le_trans hx3.1 (by omega), Nat.le_trans hx3.2 (by omega)⟩
      generalize (ps.getD i default).neg = z0 at *
      generalize (ps.getD i default).num.length = z1 at *
      generalize (ps.getD i default).den.length = z2 at *
      generalize (canR (prodE L ps k)).neg = z3 at *
      generalize (canR (prodE L ps k)).num.length = z4 at *
      generalize (canR (prodE L ps k)).den.length = z5 at *
      clear hsk hx3 hrg hrg2 hw1 hw2 hxa hkl
      go_wp2_with fail
      go_region_with (go_at_call 102; (with_reducible refine (HML.out _ (Kept.refl _).drew).mono ?_); rintro e w6 ⟨⟨v6, rfl, hv6⟩, hk6⟩; have hkd := (Kept.refl _).drew.trans hk6; have HX6 := Lib.hid (HX.out.kept hkd); have HXI6 := Lib.hid (HXI.out.kept hkd); have HK6 := Lib.hid (HKr.out.trans hkd); obtain ⟨u7, u8, rfl, k7, k8⟩ := hv6; obtain ⟨a7, c7, rfl⟩ := k7.shape; obtain ⟨a8, c8, rfl⟩ := k8.shape; have K7 := Lib.hid k7; have K8 := Lib.hid k8; obtain ⟨_, _, _, _, ⟨i0, i1, i2⟩, ⟨j0, j1, j2⟩, hgl6, _⟩ := HX6.out.at; clear k7 k8 hk6 hkd)
      all_goals
        have HS := Lib.hid (HX6.out.store K7.out K8.out)
        have HSI := Lib.hid (HX6.out.ints HXI6.out)
        generalize (canR (prodE L ps (k + 1))).num.length = n7 at *
        generalize (canR (prodE L ps (k + 1))).den.length = n8 at *
        go_wp2_with fail
        go_roundg (n - (k + 1))
        case measure => omega
        case rel => exact ⟨k + 1, by omega, by go_num, Nat.le_refl _, HS, Lib.hid (((HK6.out.store (Nat.le_refl _) _ _).store (Nat.le_refl _) _ _).store (Nat.le_refl _) _ _), Lib.hid (HSI.out _ _ _)⟩
    · have hke : k = n := by omega
      have hkn : ¬ (k : Int) < (n : Int) := by omega
      have HX2 : Hid (RatCell wr w3.heap.size R) := Lib.hid (by rw [HRR.out, ← hke]; exact HX.out)
      have hrr := HR3.out.kept HKr.out
      have HFF := Lib.hid (HF3.out.kept HKr.out)
      obtain ⟨a5, c5, a6, c6, ⟨x0, x1, x2⟩, _, hgl, u7, u8, e9, k7, k8⟩ := HX2.out.at
      simp only [Value.agg.injEq] at e9
      have e9' := congrArg Array.toList e9
      simp at e9'
      obtain ⟨rfl, rfl⟩ := e9'
      obtain ⟨y0, y1, y2, hra⟩ := rat_stored hrr HFF.out k7 k8
      have g0 := hrr.cell (i := 0) (by simp)
      have g1 := hrr.cell (i := 1) (by simp)
      have g2 := hrr.cell (i := 2) (by simp)
      have f0 := hrr.free 0
      have f1 := hrr.free 1
      have f2 := hrr.free 2
      have HRA := Lib.hid hra
      have Y0 := Lib.hid y0
      have Y1 := Lib.hid y1
      have Y2 := Lib.hid y2
      have HKw := Lib.hid (HK3.out.trans HKr.out)
      clear hra y0 y1 y2 k7 k8 hrr e9 hke
      generalize R.num.length = n7 at *
      generalize R.den.length = n8 at *
      go_wp2
      refine bodyPost_ret (v := .agg #[.bool R.neg, .slice a5 n7 c5, .slice a6 n8 c6]) ?_ rfl ⟨⟨_, rfl, HRA.out⟩, ?_⟩
      · simp [results, Tryz.results46, go_sem, Y0.out, Y1.out, Y2.out]
      · exact ((HKw.out.store (Nat.le_refl _) _ _).store (Nat.le_refl _) _ _).store (Nat.le_refl _) _ _
end Go.Proofs.YteodabnjkikogaaGreat

/-
  Walks: faultlineref06.Error, Both, part, Least, limited.
-/
namespace Go.Proofs.YteodabnjkikogaaGreat
open Go.RowKit

theorem SetsAt.cell {w : World} {a : Option Addr} {c m : Nat} {ns : List Nat} (h : SetsAt w (.slice a m c) ns) (i : Nat) (hi : i < ns.length) : ∃ b o, a = some ⟨b, o, none⟩ ∧ w.cell? ⟨b, o + i, none⟩ = some (.int .i64 (ns[i] : Nat)) := by
  obtain ⟨⟨a', c', h1, _, _, h3⟩, _⟩ := h
  cases h1
  obtain ⟨b, o, h4, h5⟩ := h3 i (by simpa using hi)
  exact ⟨b, o, h4, by simpa using h5⟩
theorem and_sub (a b : Nat) : (a &&& b = a) ↔ subN a b = true := by
  rw [subN_iff]
  constructor
  · intro h i hi
    have h1 : (a &&& b).testBit i = true := by rw [h]; exact hi
    simp at h1
    exact h1.2
  · intro h
    apply Nat.eq_of_testBit_eq
    intro i
    simp only [Nat.testBit_and]
    cases ha : a.testBit i with
    | false => simp
    | true => simp [h i ha]
def partN (a b : Nat) : Bool := decide (a ≠ b) && subN a b
theorem part_any {a b : Nat} (ha : Mk a) (hb : Mk b) (w : World) : Calls Tryz.prog 141 #[.int .i64 a, .int .i64 b] w fun e w' => e = .returned (.bool (partN a b)) ∧ w = w' := by
  have hand : bits .and .i64 (a : Int) (b : Int) = ((a &&& b : Nat) : Int) := and_i64 a b (by unfold Mk at ha; omega) (by unfold Mk at hb; omega)
  clear ha hb
  by_cases e : a = b
  · have h1 : partN a b = false := by unfold partN; simp [e]
    rw [h1]
    have ee : ((a : Int) == (b : Int)) = true := by simp; omega
    have ee2 : ((a : Int) != (b : Int)) = false := by simp; omega
    clear e h1
    go_enter Tryz.func141, Tryz.ntmps141
    go_wp2
    go_ret
    exact ⟨rfl, rfl⟩
  · have h1 : partN a b = subN a b := by unfold partN; simp [e]
    rw [h1]
    have ee : ((a : Int) == (b : Int)) = false := by simp; omega
    have ee2 : ((a : Int) != (b : Int)) = true := by simp; omega
    clear e h1
    cases hs : subN a b with
    | true =>
      have h2 : (((a &&& b : Nat) : Int) == (a : Int)) = true := by have := (and_sub a b).2 hs; simp; omega
      clear hs
      generalize (a &&& b : Nat) = z at hand h2
      go_enter Tryz.func141, Tryz.ntmps141
      go_wp2
      go_ret
      exact ⟨rfl, rfl⟩
    | false =>
      have h2 : (((a &&& b : Nat) : Int) == (a : Int)) = false := by
        have : ¬ (a &&& b = a) := fun h => by rw [(and_sub a b).1 h] at hs; cases hs
        simp; omega
      clear hs
      generalize (a &&& b : Nat) = z at hand h2
      go_enter Tryz.func141, Tryz.ntmps141
      go_wp2
      go_ret
      exact ⟨rfl, rfl⟩
theorem keep_part (ns : List Nat) (hs : ns.Pairwise ltK) (k : Nat) (hk : k < ns.length) : ((ns.take k).foldl keepN []).any (fun x => partN x ns[k]) = ((ns.take k).foldl keepN []).any (fun x => subN x ns[k]) := by
  rw [Bool.eq_iff_iff, List.any_eq_true, List.any_eq_true]
  have hne : ∀ x ∈ (ns.take k).foldl keepN [], x ≠ ns[k] := by
    intro x hx e
    rcases mem_minN _ _ _ hx with h | h
    · cases h
    · obtain ⟨i, hi, rfl⟩ := List.getElem_of_mem h
      simp only [List.length_take] at hi
      rw [List.getElem_take] at e
      have := List.pairwise_iff_getElem.1 hs i k (by omega) hk (by omega)
      rw [e] at this
      exact ltK_irr _ this
  constructor
  · rintro ⟨x, hx, h⟩
    refine ⟨x, hx, ?_⟩
    unfold partN at h; simp at h; exact h.2
  · rintro ⟨x, hx, h⟩
    refine ⟨x, hx, ?_⟩
    unfold partN; simp [hne x hx, h]
set_option maxRecDepth 100000 in
set_option maxHeartbeats 4000000 in
theorem least_own (ns : List Nat) (v : Value) (w : World) (hv : SetsAt w v ns) (hl : ns.length ≤ 8796093022208) :
    Calls Tryz.prog 80 #[v] w fun e w' => (∃ v', e = .returned v' ∧ OwnSets w' w.heap.size v' (minK ns)) ∧ Kept w w' := by
  have HS := Lib.hid (rsort_any ns.length ns v w (Nat.le_refl _) hv hl)
  obtain ⟨a, c, rfl, hc, _⟩ := hv.shape
  obtain ⟨ss, hss⟩ : ∃ ss, ss = sortK ns := ⟨_, rfl⟩
  have hps : ss.Pairwise ltK := by rw [hss]; exact pair_sortK ns
  have hsl : ss.length ≤ ns.length := by rw [hss]; exact len_sortK ns
  have hmin : minK ns = ss.foldl keepN [] := by rw [hss]; rfl
  have hmk : ∀ n ∈ ss, Mk n := by rw [hss]; exact fun n hn => hv.2 n ((mem_sortK ns n).1 hn)
  rw [← hss] at HS
  rw [hmin]
  have HM := Lib.hid hmk
  have HP := Lib.hid hps
  clear hss hmin hmk hps hv
  go_enter Tryz.func80, Tryz.ntmps80
  go_wp2_with fail
  refine HS.out.mono ?_
  rintro e w1 ⟨⟨v1, rfl, ho1⟩, hk1⟩
  have HV := Lib.hid ho1.sets
  have HK1 := Lib.hid hk1
  obtain ⟨b1, c1, rfl, hc1, _⟩ := ho1.sets.shape
  obtain ⟨n, hn⟩ : ∃ n, n = ss.length := ⟨_, rfl⟩
  rw [← hn] at HV hc1 hsl ⊢
  have HN := Lib.hid hn
  clear ho1 hk1 hn HS
  go_wp2_with fail
  go_loopw [3, 5, 6, 8, 12, 16, 17, 18] (fun vo _ _ _ i _ _ _ wr => ∃ (k : Nat), k ≤ n ∧ i = .int .i64 k ∧ OwnInts wr w1.heap.size vo (ofN ((ss.take k).foldl keepN [])) ∧ Kept w1 wr) (fun _ _ _ _ i _ _ _ _ => n - (intOf i).toNat)
  case atStart => exact ⟨0, Nat.zero_le _, rfl, OwnInts.nil _ _, Kept.refl _⟩
  case round =>
    obtain ⟨k, hk, rfl, hO, hKr⟩ := hrel
    have HO := Lib.hid hO
    have HKr := Lib.hid hKr
    have hsz := hKr.size
    clear hO hKr
    by_cases hlt : k < n
    · have hkx : k < ss.length := by have := HN.out; omega
      obtain ⟨b, o, rfl, hcell0⟩ := HV.out.cell k hkx
      have hcell := HKr.out.cell hcell0
      have hkp := keep_part ss HP.out k hkx
      have hms := HM.out _ (List.getElem_mem hkx)
      have htk : (ss.take (k + 1)).foldl keepN [] = keepN ((ss.take k).foldl keepN []) ss[k] := by rw [List.take_succ_eq_append_getElem hkx, List.foldl_append]; rfl
      have hma : ∀ x ∈ (ss.take k).foldl keepN [], Mk x := fun x hx => by
        rcases mem_minN _ _ _ hx with h | h
        · cases h
        · exact HM.out x (List.mem_of_mem_take h)
      have hla : ((ss.take k).foldl keepN []).length ≤ k := by
        have := len_minN (ss.take k) []
        simp at this
        omega
      obtain ⟨s, hs⟩ : ∃ s, s = ss[k] := ⟨_, rfl⟩
      rw [← hs] at hcell hkp hms htk
      obtain ⟨acc, hacc⟩ : ∃ x, x = (ss.take k).foldl keepN [] := ⟨_, rfl⟩
      rw [← hacc] at HO hkp htk hma hla
      have HKP := Lib.hid hkp
      have HTK := Lib.hid htk
      have HMA := Lib.hid hma
      have HMS := Lib.hid hms
      have ho3 := OwnInts.ints HO.out
      obtain ⟨ao, no, co, rfl⟩ := ho3.shape
      have hal : no = acc.length := by obtain ⟨_, _, h, _⟩ := ho3; cases h; simp
      subst hal
      have HSO : Hid (SetsAt wr (.slice ao acc.length co) acc) := Lib.hid ⟨ho3, HMA.out⟩
      obtain ⟨m, hm⟩ : ∃ m, m = acc.length := ⟨_, rfl⟩
      rw [← hm] at HSO HO hla ⊢
      have HML := Lib.hid hm
      clear hcell0 hkp htk hma hms hs hacc ho3 hm
      go_wp2_with fail
      obtain ⟨wo, rfl⟩ : ∃ wo : World, wo = wr := ⟨_, rfl⟩
      go_loop [6, 8, 18] (fun sm _ j => ∃ q : Nat, q ≤ m ∧ j = .int .i64 q ∧ sm = .bool (!((acc.take q).any fun x => partN x s))) (fun _ _ j => m - (intOf j).toNat)
      case atStart => exact ⟨0, Nat.zero_le _, rfl, rfl⟩
      case round =>
        obtain ⟨q, hq, rfl, rfl⟩ := hrel
        by_cases hqm : q < m
        · have hqx : q < acc.length := by have := HML.out; omega
          obtain ⟨b2, o2, rfl, hcell2⟩ := HSO.out.cell q hqx
          have hmx := HMA.out _ (List.getElem_mem hqx)
          have hst : (acc.take (q + 1)).any (fun x => partN x s) = ((acc.take q).any (fun x => partN x s) || partN acc[q] s) := by
            rw [List.take_succ_eq_append_getElem hqx, List.any_append]; simp
          obtain ⟨x, hx⟩ : ∃ x, x = acc[q] := ⟨_, rfl⟩
          rw [← hx] at hcell2 hmx hst
          have HP2 : Hid (∀ W, Calls Tryz.prog 141 #[.int .i64 x, .int .i64 s] W fun e w' => e = .returned (.bool (partN x s)) ∧ W = w') := Lib.hid fun W => part_any hmx HMS.out W
          have HST := Lib.hid hst
          clear hx hmx hst
          cases hb1 : (acc.take q).any fun x => partN x s with
          | true =>
            have HB1 := Lib.hid hb1
            clear hb1
            go_wp2_with (go_at_call 141; refine (HP2.out _).mono ?_; rintro e w' ⟨rfl, rfl⟩)
            go_round
            case rel => exact ⟨q + 1, by omega, by go_num, by rw [HST.out, HB1.out]; rfl⟩
            case measure => simp [intOf]; omega
          | false =>
            have HB1 := Lib.hid hb1
            clear hb1
            go_wp2_with (go_at_call 141; refine (HP2.out _).mono ?_; rintro e w' ⟨rfl, rfl⟩)
            go_round
            case rel => exact ⟨q + 1, by omega, by go_num, by rw [HST.out, HB1.out]; rfl⟩
            case measure => simp [intOf]; omega
        · have hqe : acc.take q = acc := List.take_of_length_le (by have := HML.out; omega)
          rw [hqe, HKP.out]
          cases hb1 : acc.any fun x => subN x s with
          | true =>
            have HKN : Hid ((ss.take (k + 1)).foldl keepN [] = acc) := Lib.hid (by rw [HTK.out, keepN, if_pos hb1])
            clear hb1 hqe
            go_wp2
            go_roundw
            case rel => exact ⟨k + 1, by omega, by go_num, by rw [HKN.out]; exact HO.out, HKr.out⟩
            case measure => simp [intOf]; omega
          | false =>
            have HKN : Hid ((ss.take (k + 1)).foldl keepN [] = acc ++ [s]) := Lib.hid (by rw [HTK.out, keepN, if_neg (by rw [hb1]; simp)])
            clear hb1 hqe
            go_wp2_with (at_builtin; refine app_int rfl _ _ rfl w1.heap.size _ (ofN acc) rfl (HO.out.kept ((Kept.refl _).alloc _)) _ (s : Int) rfl (by simp) (by simp; have := HML.out; omega) (by simp; omega) ?_; intro v7 w7 hown7 _ hb7; have O7 := Lib.hid hown7; have HB7 := Lib.hid hb7; clear hown7 hb7)
            go_roundw
            case rel => exact ⟨k + 1, by omega, by go_num, by rw [HKN.out]; simpa [ofN] using O7.out, (HKr.out.alloc _).app HB7.out⟩
            case measure => simp [intOf]; omega
    · have hfull : ss.take k = ss := List.take_of_length_le (by have := HN.out; omega)
      rw [hfull] at HO
      clear hfull
      go_wp2
      go_ret
      exact ⟨⟨_, rfl, ⟨HO.out.mono HK1.out.size, fun x hx => by
        rcases mem_minN _ _ _ hx with h | h
        · cases h
        · exact HM.out x h⟩⟩, HK1.out.trans HKr.out⟩
end Go.Proofs.YteodabnjkikogaaGreat

/-
  Walks: family.lists of one list, family.Check, and the reference's Error and Check, of whatever list.
-/
namespace Go.Proofs.YteodabnjkikogaaGreat
open Go.RowKit

def okI (xs : List Int) : Bool := xs.all fun x => decide (0 ≤ x ∧ x ≤ 16777215)
def errI (xs : List Int) : Nat := if 1024 < xs.length then 4 else if okI xs = true then 0 else 3
def natsI (xs : List Int) : List Nat := xs.map Int.toNat
/-- The number of Check's error. -/
def chkI (xs : List Int) : Nat := if errI xs ≠ 0 then errI xs else if natsI xs ≠ sortK (natsI xs) then 13 else if natsI xs ≠ minK (natsI xs) then 2 else 0
end Go.Proofs.YteodabnjkikogaaGreat

/-
  Walk: truncate.Left. Printed by gen_A51.py.
-/
namespace Go.Proofs.YteodabnjkikogaaGreat
open Go.RowKit

/-- The sum of the first products. -/
def sumQ (ss : List Nat) (ps : List Rw) : Nat → Rat
  | 0 => 0
  | k + 1 => sumQ ss ps k + prodQ (ss.getD k 0) ps ps.length
/-- What Left answers: the error's number, the sum. -/
def leftQ (xs ys : List Int) (ps : List Rw) : Nat × Rat :=
  if chkI xs ≠ 0 then (chkI xs, 0) else if chkI ys ≠ 0 then (chkI ys, 0) else if (natsI ys).any (fun s => decide ((ps.length : Int) ≤ gtK s)) = true then (11, 0) else if badR ps = true then (3, 0) else (0, sumQ (natsI ys) ps (natsI ys).length)
end Go.Proofs.YteodabnjkikogaaGreat

/-
  Walks: truncate.coherently; ByOrder's closure.
-/
namespace Go.Proofs.YteodabnjkikogaaGreat.Tr
open Go.RowKit

set_option maxRecDepth 100000 in
theorem coher_err (v : Value) (f : Fm) (w : World) (hv : NodesAt w v f.nodes) (ht : f.top ≤ 9223372036854775807) (hck : chkF f ≠ 0) :
    Calls Tryz.prog 30 #[fmV v f] w fun e w' => e = .returned (errV (chkF f)) ∧ Kept w w' := by
  have HC := Lib.hid (fun W (hk : Kept w W) => check_any v f W (hv.kept hk) ht)
  have E2 := Lib.hid (errV_pos hck)
  obtain ⟨q, hq⟩ : ∃ q, q = chkF f := ⟨_, rfl⟩
  obtain ⟨a, c, rfl, hrest⟩ := hv
  clear hrest ht hck
  generalize f.nodes.length = n at *
  obtain ⟨vars, nodes, top⟩ := f
  unfold fmV at *
  simp only at HC E2 ⊢
  rw [← hq] at HC E2 ⊢
  clear hq
  rw [E2.out] at HC ⊢
  go_enter Tryz.func30, Tryz.ntmps30
  go_wp2_with (go_at_call 18; refine (HC.out _ ((Kept.refl _).alloc _)).mono ?_; rintro e w1 ⟨rfl, hk1⟩)
  go_ret
  exact ⟨rfl, ((Kept.refl _).alloc _).trans hk1⟩
set_option maxRecDepth 100000 in
theorem coher_ok (v : Value) (f : Fm) (V T : Nat) (w : World) (hv : NodesAt w v f.nodes) (hok : Ok f V T) (hck : chkF f = 0) :
    Calls Tryz.prog 30 #[.agg #[.int .i64 V, v, .int .i64 T]] w fun e w' => e = .returned (errV (if synK V T f = true then 0 else 7)) ∧ Kept w w' := by
  have hfm : fmV v f = .agg #[.int .i64 V, v, .int .i64 T] := by unfold fmV; rw [hok.vars, hok.top]
  have HC : Hid (∀ W, Kept w W → Calls Tryz.prog 18 #[.agg #[.int .i64 V, v, .int .i64 T]] W fun e w' => e = .returned .nilIface ∧ Kept W w') := Lib.hid fun W hk => by
    have h := check_any v f W (hv.kept hk) (by rw [hok.top]; have := hok.tlt; have := hok.n128; have := hok.v24; omega)
    rw [hck, hfm] at h
    exact h
  have HSY := Lib.hid (fun W (hk : Kept w W) => syntax_ok v f V T W (hv.kept hk) hok hck)
  obtain ⟨b, hb⟩ : ∃ b, b = synK V T f := ⟨_, rfl⟩
  rw [← hb] at HSY ⊢
  obtain ⟨a, c, rfl, hrest⟩ := hv
  clear hrest hok hck hfm hb
  generalize f.nodes.length = n at *
  cases b with
  | true =>
    rw [if_pos rfl, errV_zero]
    go_enter Tryz.func30, Tryz.ntmps30
    go_wp2_with (go_at_call 18; refine (HC.out _ ((Kept.refl _).alloc _)).mono ?_; rintro e w1 ⟨rfl, hk1⟩; obtain ⟨c0, c1, c2⟩ := fm_cells hk1; have K1 := Lib.hid (((Kept.refl _).alloc _).trans hk1); clear hk1)
    refine (HSY.out _ K1.out).mono ?_
    rintro e w2 ⟨rfl, hk2⟩
    go_wp2
    go_ret
    exact ⟨rfl, K1.out.trans hk2⟩
  | false =>
    rw [if_neg (by decide), errV_pos (by decide)]
    go_enter Tryz.func30, Tryz.ntmps30
    go_wp2_with (go_at_call 18; refine (HC.out _ ((Kept.refl _).alloc _)).mono ?_; rintro e w1 ⟨rfl, hk1⟩; obtain ⟨c0, c1, c2⟩ := fm_cells hk1; have K1 := Lib.hid (((Kept.refl _).alloc _).trans hk1); clear hk1)
    refine (HSY.out _ K1.out).mono ?_
    rintro e w2 ⟨rfl, hk2⟩
    go_wp2
    go_ret
    exact ⟨rfl, K1.out.trans hk2⟩
/-- Too many events. -/
def overP (k : Int) (e : Nat) : Bool := decide (k < pc e)
set_option maxRecDepth 100000 in
theorem over_any (k : Int) (e bk : Nat) (w : World) (hk : w.cell? ⟨bk, 0, none⟩ = some (.int .i64 k)) (he : Mk e) :
    Calls Tryz.prog 62 #[.int .i64 e, .pointer (some ⟨bk, 0, none⟩)] w fun e' w' => e' = .returned (.bool (overP k e)) ∧ Kept w w' := by
  have HC : Hid (∀ W, Calls Tryz.prog 63 #[.int .i64 e] W fun e' w' => e' = .returned (.int .i64 (pc e)) ∧ W = w') := Lib.hid fun W => (count_any he W).mono fun _ _ h => ⟨h.1, h.2⟩
  unfold overP
  generalize pc e = q at *
  have hk2 := ((Kept.refl w).drew).cell hk
  clear he
  go_enter Tryz.func62, Tryz.ntmps62
  go_wp2
  go_region_with (go_at_call 63; (with_reducible refine (HC.out _).mono ?_); rintro e w3 ⟨rfl, rfl⟩)
  all_goals go_wp2
  all_goals go_ret
  all_goals exact ⟨rfl, (Kept.refl _).drew⟩
end Go.Proofs.YteodabnjkikogaaGreat.Tr

/-
  Walks: the rows of truncate: flip, node, within, size.
-/
namespace Go.Proofs.YteodabnjkikogaaGreat
open Go.RowKit

set_option maxRecDepth 100000 in
theorem tflip_lo_on (e l h j : Nat) (hl : l < 18446744073709551616) (hj : j < 64) (w : World) (y : Nat) (hy : y = l ||| 2 ^ j) :
    Calls Tryz.prog 125 #[.agg #[.int .i64 e, .int .u64 l, .int .u64 h], .int .i64 (j : Nat), .bool true] w fun e' w' => e' = .returned (.agg #[.int .i64 e, .int .u64 y, .int .u64 h]) ∧ Kept w w' := by
  obtain ⟨i, hi⟩ : ∃ i, i = j := ⟨_, rfl⟩
  rw [← hi]
  have q4 : ¬ (j : Int) < 0 := by omega
  have p1 := pow_u64 j hj
  have hp := pow_lt64 hj
  obtain ⟨z, hz⟩ : ∃ z, z = 2 ^ j := ⟨_, rfl⟩
  rw [← hz] at p1 hp hy
  have p2 := or_u64 l z hl hp
  rw [← hy] at p2
  clear hz hy
  subst hi
  have g1 : ¬ 64 ≤ (i : Int) := by omega
  go_enter Tryz.func125, Tryz.ntmps125
  go_wp2
  go_region
  all_goals go_wp2
  all_goals exact bodyPost_ret (v := .agg #[.int .i64 e, .int .u64 y, .int .u64 h]) (by simp [results, Tryz.results125, go_sem]) rfl ⟨rfl, by repeat (first | exact Kept.refl _ | apply Kept.drew | apply Kept.alloc | refine Kept.store ?_ (by simp) _ _)⟩
set_option maxRecDepth 100000 in
theorem tflip_hi_on (e l h j : Nat) (hl : h < 18446744073709551616) (hj : j < 64) (w : World) (y : Nat) (hy : y = h ||| 2 ^ j) :
    Calls Tryz.prog 125 #[.agg #[.int .i64 e, .int .u64 l, .int .u64 h], .int .i64 (64 + j : Nat), .bool true] w fun e' w' => e' = .returned (.agg #[.int .i64 e, .int .u64 l, .int .u64 y]) ∧ Kept w w' := by
  obtain ⟨i, hi⟩ : ∃ i, i = 64 + j := ⟨_, rfl⟩
  rw [← hi]
  have q4 : ¬ (j : Int) < 0 := by omega
  have p1 := pow_u64 j hj
  have hp := pow_lt64 hj
  obtain ⟨z, hz⟩ : ∃ z, z = 2 ^ j := ⟨_, rfl⟩
  rw [← hz] at p1 hp hy
  have p2 := or_u64 h z hl hp
  rw [← hy] at p2
  clear hz hy
  have g1 : 64 ≤ (i : Int) := by omega
  have g2 : (i : Int) - 64 = (j : Int) := by omega
  have g3 : IntKind.i64.wrap ((i : Int) - 64) = (j : Int) := by rw [IntKind.wrap_i64]; omega
  clear hi
  go_enter Tryz.func125, Tryz.ntmps125
  go_wp2
  go_region
  all_goals go_wp2
  all_goals exact bodyPost_ret (v := .agg #[.int .i64 e, .int .u64 l, .int .u64 y]) (by simp [results, Tryz.results125, go_sem]) rfl ⟨rfl, by repeat (first | exact Kept.refl _ | apply Kept.drew | apply Kept.alloc | refine Kept.store ?_ (by simp) _ _)⟩
set_option maxRecDepth 100000 in
theorem tflip_lo_off (e l h j : Nat) (hl : l < 18446744073709551616) (hj : j < 64) (w : World) (y : Nat) (hy : y = sdiff l (2 ^ j)) :
    Calls Tryz.prog 125 #[.agg #[.int .i64 e, .int .u64 l, .int .u64 h], .int .i64 (j : Nat), .bool false] w fun e' w' => e' = .returned (.agg #[.int .i64 e, .int .u64 y, .int .u64 h]) ∧ Kept w w' := by
  obtain ⟨i, hi⟩ : ∃ i, i = j := ⟨_, rfl⟩
  rw [← hi]
  have q4 : ¬ (j : Int) < 0 := by omega
  have p1 := pow_u64 j hj
  have hp := pow_lt64 hj
  obtain ⟨z, hz⟩ : ∃ z, z = 2 ^ j := ⟨_, rfl⟩
  rw [← hz] at p1 hp hy
  have p2 := andNot_u64 l z hl hp
  rw [← hy] at p2
  clear hz hy
  subst hi
  have g1 : ¬ 64 ≤ (i : Int) := by omega
  go_enter Tryz.func125, Tryz.ntmps125
  go_wp2
  go_region
  all_goals go_wp2
  all_goals exact bodyPost_ret (v := .agg #[.int .i64 e, .int .u64 y, .int .u64 h]) (by simp [results, Tryz.results125, go_sem]) rfl ⟨rfl, by repeat (first | exact Kept.refl _ | apply Kept.drew | apply Kept.alloc | refine Kept.store ?_ (by simp) _ _)⟩
set_option maxRecDepth 100000 in
theorem tflip_hi_off (e l h j : Nat) (hl : h < 18446744073709551616) (hj : j < 64) (w : World) (y : Nat) (hy : y = sdiff h (2 ^ j)) :
    Calls Tryz.prog 125 #[.agg #[.int .i64 e, .int .u64 l, .int .u64 h], .int .i64 (64 + j : Nat), .bool false] w fun e' w' => e' = .returned (.agg #[.int .i64 e, .int .u64 l, .int .u64 y]) ∧ Kept w w' := by
  obtain ⟨i, hi⟩ : ∃ i, i = 64 + j := ⟨_, rfl⟩
  rw [← hi]
  have q4 : ¬ (j : Int) < 0 := by omega
  have p1 := pow_u64 j hj
  have hp := pow_lt64 hj
  obtain ⟨z, hz⟩ : ∃ z, z = 2 ^ j := ⟨_, rfl⟩
  rw [← hz] at p1 hp hy
  have p2 := andNot_u64 h z hl hp
  rw [← hy] at p2
  clear hz hy
  have g1 : 64 ≤ (i : Int) := by omega
  have g2 : (i : Int) - 64 = (j : Int) := by omega
  have g3 : IntKind.i64.wrap ((i : Int) - 64) = (j : Int) := by rw [IntKind.wrap_i64]; omega
  clear hi
  go_enter Tryz.func125, Tryz.ntmps125
  go_wp2
  go_region
  all_goals go_wp2
  all_goals exact bodyPost_ret (v := .agg #[.int .i64 e, .int .u64 l, .int .u64 y]) (by simp [results, Tryz.results125, go_sem]) rfl ⟨rfl, by repeat (first | exact Kept.refl _ | apply Kept.drew | apply Kept.alloc | refine Kept.store ?_ (by simp) _ _)⟩
theorem twithin_any {a b : Nat} (ha : RowLt 152 a) (hb : RowLt 152 b) (w : World) : Calls Tryz.prog 131 #[rowV a, rowV b] w fun e w' => e = .returned (.bool (subN a b)) ∧ ∃ C O, w' = (w.alloc C).alloc O := by
  have b1 := sub_i64 (evW a) (evW b) (by have := evW_lt a; omega) (by have := evW_lt b; omega)
  have b2 := sub_u64 (loW a) (loW b) (loW_lt a) (loW_lt b)
  have b3 := sub_u64 (hiW a) (hiW b) (hiW_lt ha) (hiW_lt hb)
  rw [sub_row]
  generalize subN (evW a) (evW b) = x1 at *
  generalize subN (loW a) (loW b) = x2 at *
  generalize subN (hiW a) (hiW b) = x3 at *
  unfold rowV
  generalize evW a = ea at *
  generalize evW b = eb at *
  generalize loW a = la at *
  generalize loW b = lb at *
  generalize hiW a = za at *
  generalize hiW b = zb at *
  clear ha hb
  cases x1 with
  | false =>
    go_enter Tryz.func131, Tryz.ntmps131
    go_wp2
    go_ret
    exact ⟨rfl, _, _, rfl⟩
  | true =>
    cases x2 with
    | false =>
      go_enter Tryz.func131, Tryz.ntmps131
      go_wp2
      go_ret
      exact ⟨rfl, _, _, rfl⟩
    | true =>
      go_enter Tryz.func131, Tryz.ntmps131
      go_wp2
      go_ret
      exact ⟨by cases x3 <;> rfl, _, _, rfl⟩
theorem tsize_any {c : Nat} (hc : RowLt 152 c) (w : World) : Calls Tryz.prog 128 #[rowV c] w fun e w' => e = .returned (.int .i64 (pc c)) ∧ ∃ C n, w' = (w.alloc C).drewN n := by
  have h1 : ∀ W, Calls Tryz.prog 63 #[.int .i64 (evW c)] W fun e w' => e = .returned (.int .i64 (pc (evW c))) ∧ w' = W := fun W => (count_any (evW_lt c) W).mono fun _ _ h => ⟨h.1, h.2.symm⟩
  have h2 : ∀ W, Calls Tryz.prog 177 #[.int .u64 (loW c)] W fun e w' => e = .returned (.int .i64 (pc (loW c))) ∧ w' = W := fun W => (ones64_any _ W).mono fun _ _ h => ⟨by rw [h.1, pcS_word _ (loW_lt c)], h.2.symm⟩
  have h3 : ∀ W, Calls Tryz.prog 177 #[.int .u64 (hiW c)] W fun e w' => e = .returned (.int .i64 (pc (hiW c))) ∧ w' = W := fun W => (ones64_any _ W).mono fun _ _ h => ⟨by rw [h.1, pcS_word _ (hiW_lt hc)], h.2.symm⟩
  have e1 := pc_lt 24 (evW c) (evW_lt c)
  have e2 := pc_lt 64 (loW c) (loW_lt c)
  have e3 := pc_lt 64 (hiW c) (hiW_lt hc)
  rw [pc_row c]
  unfold rowV
  generalize pc (evW c) = p1 at *
  generalize pc (loW c) = p2 at *
  generalize pc (hiW c) = p3 at *
  generalize evW c = ea at *
  generalize loW c = la at *
  generalize hiW c = za at *
  have H1 := Lib.hid h1
  have H2 := Lib.hid h2
  have H3 := Lib.hid h3
  have w1 : IntKind.i64.wrap ((p1 : Int) + (p2 : Int)) = (p1 : Int) + (p2 : Int) := by rw [IntKind.wrap_i64]; omega
  have w2 : IntKind.i64.wrap ((p1 : Int) + (p2 : Int) + (p3 : Int)) = (p1 : Int) + (p2 : Int) + (p3 : Int) := by rw [IntKind.wrap_i64]; omega
  clear h1 h2 h3 hc
  go_enter Tryz.func128, Tryz.ntmps128
  go_wp2
  go_quiet ((first | (go_at_call 63; exact Calls.quiet_of_same (H1.out _)) | (go_at_call 177; (with_reducible exact Calls.quiet_of_same (H2.out _))) | (go_at_call 177; (with_reducible exact Calls.quiet_of_same (H3.out _)))))
  go_wp2
  go_ret
  exact ⟨by simp, _, _, rfl⟩
end Go.Proofs.YteodabnjkikogaaGreat

/-
  Walks: slices.SortStableFunc at the rows of truncate: the closure, insertionSort's contract laid, swapRange, rotate.
-/
namespace Go.Proofs.YteodabnjkikogaaGreat.Tr
open Go.Shelf Go.RowKit Go.Lib Go.Sort

def rcells (c : Nat) : List Value := [.int .i64 (evW c), .int .u64 (loW c), .int .u64 (hiW c)]
/-- A number as a row: its low bits. -/
def lowR (c : Nat) : Nat := c % 5708990770823839524233143877797980545530986496
theorem lowR_lt (c : Nat) : RowLt 152 (lowR c) := rowLt_of_num (Nat.lt_of_lt_of_le (Nat.mod_lt _ (by decide)) (by decide))
theorem lowR_of {c : Nat} (h : RowLt 152 c) : lowR c = c := Nat.mod_eq_of_lt (Nat.lt_of_lt_of_le (rowLt_num h) (by decide))
def encR (c : Nat) : List Value := rcells (lowR c)
def cfR (a b : Nat) : Int := (pc (lowR a) : Int) - (pc (lowR b) : Int)
theorem ltR (a b : Nat) : ltOf cfR a b = decide (pc (lowR a) < pc (lowR b)) := by
  unfold ltOf cfR
  rw [decide_eq_decide]; omega
theorem swoR : SWO (ltOf cfR) where
  irrefl x := by rw [ltR]; simp
  trans x y z h1 h2 := by rw [ltR] at *; simp at *; omega
  ntrans x y z h1 h2 := by rw [ltR] at *; simp at *; omega
theorem drewN_alloc_grow (w : World) (C : Obj) (n : Nat) : (w.alloc C).drewN n = grow (w.drewN n) #[C] := by
  rw [alloc_eq_grow]; rfl
theorem grow_two (W : World) (X Y : Obj) (n : Nat) (os : Array Obj) : grow (((W.alloc X).alloc Y).drewN n) os = grow (W.drewN n) (#[X] ++ (#[Y] ++ os)) := by
  rw [alloc_eq_grow, alloc_eq_grow]
  show grow (grow (grow (W.drewN n) #[X]) #[Y]) os = _
  rw [grow_grow, grow_grow]
set_option maxRecDepth 100000 in
theorem leastCmp (x y : Nat) (W : World) : Calls Tryz.prog 127 #[.agg (encR x).toArray, .agg (encR y).toArray] W fun e w' => e = .returned (.int .i64 (cfR x y)) ∧ ∃ q os', w' = grow (W.drewN q) os' := by
  have hx : ∀ W', Calls Tryz.prog 128 #[.agg (encR x).toArray] W' fun e w' => e = .returned (.int .i64 (pc (lowR x))) ∧ ∃ q os', w' = grow (W'.drewN q) os' := fun W' => (tsize_any (lowR_lt x) W').mono fun _ _ ⟨h1, C, n, h2⟩ => ⟨h1, n, _, h2.trans (drewN_alloc_grow W' C n)⟩
  have hy : ∀ W', Calls Tryz.prog 128 #[.agg (encR y).toArray] W' fun e w' => e = .returned (.int .i64 (pc (lowR y))) ∧ ∃ q os', w' = grow (W'.drewN q) os' := fun W' => (tsize_any (lowR_lt y) W').mono fun _ _ ⟨h1, C, n, h2⟩ => ⟨h1, n, _, h2.trans (drewN_alloc_grow W' C n)⟩
  have bx := pc_lt 152 (lowR x) (rowLt_num (lowR_lt x))
  have by' := pc_lt 152 (lowR y) (rowLt_num (lowR_lt y))
  unfold cfR
  unfold encR rcells at *
  generalize pc (lowR x) = px at *
  generalize pc (lowR y) = py at *
  generalize evW (lowR x) = x0 at *
  generalize loW (lowR x) = x1 at *
  generalize hiW (lowR x) = x2 at *
  generalize evW (lowR y) = y0 at *
  generalize loW (lowR y) = y1 at *
  generalize hiW (lowR y) = y2 at *
  have w1 : IntKind.i64.wrap ((px : Int) - (py : Int)) = (px : Int) - (py : Int) := by rw [IntKind.wrap_i64]; omega
  have mixed : Tryz.prog.follows .mixedOrders = true := by kernel_rfl
  have cx : ∀ n os, (grow ((((W.alloc (.cells #[.int .i64 x0, .int .u64 x1, .int .u64 x2] 103)).alloc (.cells #[.int .i64 y0, .int .u64 y1, .int .u64 y2] 103))).drewN n) os).cell? ⟨W.heap.size, 0, none⟩ = some (.int .i64 x0) ∧ (grow ((((W.alloc (.cells #[.int .i64 x0, .int .u64 x1, .int .u64 x2] 103)).alloc (.cells #[.int .i64 y0, .int .u64 y1, .int .u64 y2] 103))).drewN n) os).cell? ⟨W.heap.size, 1, none⟩ = some (.int .u64 x1) ∧ (grow ((((W.alloc (.cells #[.int .i64 x0, .int .u64 x1, .int .u64 x2] 103)).alloc (.cells #[.int .i64 y0, .int .u64 y1, .int .u64 y2] 103))).drewN n) os).cell? ⟨W.heap.size, 2, none⟩ = some (.int .u64 x2) := fun n os => by
    refine ⟨?_, ?_, ?_⟩ <;> (rw [cell?_grow _ _ _ (by simp; omega)]; simp)
  have cy : ∀ n os, (grow ((((W.alloc (.cells #[.int .i64 x0, .int .u64 x1, .int .u64 x2] 103)).alloc (.cells #[.int .i64 y0, .int .u64 y1, .int .u64 y2] 103))).drewN n) os).cell? ⟨W.heap.size + 1, 0, none⟩ = some (.int .i64 y0) ∧ (grow ((((W.alloc (.cells #[.int .i64 x0, .int .u64 x1, .int .u64 x2] 103)).alloc (.cells #[.int .i64 y0, .int .u64 y1, .int .u64 y2] 103))).drewN n) os).cell? ⟨W.heap.size + 1, 1, none⟩ = some (.int .u64 y1) ∧ (grow ((((W.alloc (.cells #[.int .i64 x0, .int .u64 x1, .int .u64 x2] 103)).alloc (.cells #[.int .i64 y0, .int .u64 y1, .int .u64 y2] 103))).drewN n) os).cell? ⟨W.heap.size + 1, 2, none⟩ = some (.int .u64 y2) := fun n os => by
    refine ⟨?_, ?_, ?_⟩ <;> (rw [cell?_grow _ _ _ (by simp)]; simp)
  have HX : Hid _ := hx
  have HY : Hid _ := hy
  clear hx hy
  show Calls Tryz.prog 127 #[.agg #[.int .i64 x0, .int .u64 x1, .int .u64 x2], .agg #[.int .i64 y0, .int .u64 y1, .int .u64 y2]] W _
  go_enter Tryz.func127, Tryz.ntmps127
  go_wp2
  go_quiet_grown (first | (go_at_call 128; (with_reducible refine Calls.grown_of (HX.out _))) | (go_at_call 128; (with_reducible refine Calls.grown_of (HY.out _))))
  go_wp2
  go_ret
  exact ⟨rfl, nq, _, grow_two _ _ _ _ _⟩
end Go.Proofs.YteodabnjkikogaaGreat.Tr

/-
  Slices of rows of truncate. Walk: topdown.greatest.
-/
namespace Go.Proofs.YteodabnjkikogaaGreat.Tr
open Go.RowKit

/-- A slice of rows that can be read. -/
def RwsAt (w : World) (v : Value) (L : List Nat) : Prop :=
  ∃ (a : Option Addr) (c : Nat), v = .slice a L.length c ∧ (L.length ≤ c ∧ (a = none → c = 0)) ∧ L.length ≤ 10000 ∧ (∀ c ∈ L, RowLt 152 c) ∧
    ∀ i (h : i < L.length), ∃ b o, a = some ⟨b, o, none⟩ ∧ w.rangeAt b (o + i * 3) (rcells L[i])
theorem range_kept {w w' : World} {b o : Nat} {cs : List Value} (h : w.rangeAt b o cs) (hk : Kept w w') : w'.rangeAt b o cs := fun j v hj => hk.cell (h j v hj)
theorem RwsAt.kept {w w' : World} {v : Value} {L : List Nat} (h : RwsAt w v L) (hk : Kept w w') : RwsAt w' v L := by
  obtain ⟨a, c, h1, h2, h3, h4, h5⟩ := h
  exact ⟨a, c, h1, h2, h3, h4, fun i hi => let ⟨b, o, h6, h7⟩ := h5 i hi; ⟨b, o, h6, range_kept h7 hk⟩⟩
/-- Rows of the call's own. -/
def OwnRws (w : World) (B : Nat) (v : Value) (L : List Nat) : Prop :=
  w.ownsRow B 103 3 v L.length (L.flatMap rcells) ∧ L.length ≤ 10000 ∧ ∀ c ∈ L, RowLt 152 c
theorem OwnRws.kept {w w' : World} {B : Nat} {v : Value} {L : List Nat} (h : OwnRws w B v L) (hk : Kept w w') : OwnRws w' B v L := ⟨own_kept h.1 hk, h.2⟩
theorem OwnRws.mono {w : World} {B B' : Nat} {v : Value} {L : List Nat} (h : OwnRws w B v L) (hb : B' ≤ B) : OwnRws w B' v L := ⟨own_mono h.1 hb, h.2⟩
theorem OwnRws.nil (w : World) (B : Nat) : OwnRws w B (.slice none 0 0) [] := ⟨World.ownsRow_nil _ _ _ _, by simp, by simp⟩
theorem len_flat (L : List Nat) : (L.flatMap rcells).length = L.length * 3 := by
  induction L with
  | nil => rfl
  | cons c L ih => simp [rcells, ih]; omega
theorem flat_get (L : List Nat) : ∀ i (h : i < L.length) j, j < 3 → (L.flatMap rcells)[i * 3 + j]? = (rcells L[i])[j]? := by
  induction L with
  | nil => intro i h; simp at h
  | cons c L ih =>
    intro i h j hj
    rw [List.flatMap_cons]
    cases i with
    | zero => rw [List.getElem?_append_left (by simp [rcells]; omega)]; simp
    | succ i =>
      rw [List.getElem?_append_right (by simp [rcells]; omega), show (rcells c).length = 3 from rfl, show (i + 1) * 3 + j - 3 = i * 3 + j by omega]
      exact ih i (by simpa using h) j hj
theorem OwnRws.at {w : World} {B : Nat} {v : Value} {L : List Nat} (h : OwnRws w B v L) : RwsAt w v L := by
  obtain ⟨⟨h1, h2⟩, h3, h4⟩ := h
  rcases h2 with ⟨rfl, h6⟩ | ⟨g, cap, cur, rfl, h6, h7, h8, h9, h10, h11⟩
  · have : L = [] := List.eq_nil_of_length_eq_zero h6
    subst this
    exact ⟨none, 0, rfl, ⟨by simp, fun _ => rfl⟩, by simp, by simp, fun i h => by simp at h⟩
  · refine ⟨some ⟨g, 0, none⟩, cap, rfl, ⟨h8, fun h => by cases h⟩, h3, h4, fun i hi => ⟨g, 0, rfl, fun j u hj => ?_⟩⟩
    have hj3 : j < 3 := by
      have := (List.getElem?_eq_some_iff.1 hj).1
      simpa [rcells] using this
    have e1 : (cur.toList.take (L.length * 3))[i * 3 + j]? = (L.flatMap rcells)[i * 3 + j]? := by rw [h11]
    rw [List.getElem?_take_of_lt (by omega), flat_get L i hi j hj3, hj] at e1
    simp only [World.cell?, h7, Nat.zero_add]
    simpa using e1
theorem RwsAt.shape {w : World} {v : Value} {L : List Nat} (h : RwsAt w v L) : ∃ a c, v = .slice a L.length c := by
  obtain ⟨a, c, h, _⟩ := h; exact ⟨a, c, h⟩
end Go.Proofs.YteodabnjkikogaaGreat.Tr

/-
  Walks: the rows of truncate: flip, node, has at masks; the cutter's add.
-/
namespace Go.Proofs.YteodabnjkikogaaGreat
open Go.RowKit

theorem tflip_any {c : Nat} (hc : RowLt 152 c) (i : Nat) (hi : i < 128) (w : World) : Calls Tryz.prog 125 #[rowV c, .int .i64 i, .bool true] w fun e w' => e = .returned (rowV (c ||| 2 ^ (24 + i))) ∧ Kept w w' := by
  unfold rowV
  by_cases h6 : i < 64
  · obtain ⟨e1, e2, e3⟩ := lo_with (c := c) (j := i) h6
    rw [e1, e2, e3]
    exact tflip_lo_on (evW c) (loW c) (hiW c) i (loW_lt c) h6 w _ rfl
  · obtain ⟨j, rfl⟩ : ∃ j, i = 64 + j := ⟨i - 64, by omega⟩
    obtain ⟨e1, e2, e3⟩ := hi_with (c := c) (j := j)
    rw [e1, e2, e3]
    exact tflip_hi_on (evW c) (loW c) (hiW c) j (hiW_lt hc) (by omega) w _ rfl
theorem tunflip_any {c : Nat} (hc : RowLt 152 c) (i : Nat) (hi : i < 128) (w : World) : Calls Tryz.prog 125 #[rowV c, .int .i64 i, .bool false] w fun e w' => e = .returned (rowV (sdiff c (2 ^ (24 + i)))) ∧ Kept w w' := by
  unfold rowV
  by_cases h6 : i < 64
  · obtain ⟨e1, e2, e3⟩ := lo_without (c := c) (j := i) h6
    rw [e1, e2, e3]
    exact tflip_lo_off (evW c) (loW c) (hiW c) i (loW_lt c) h6 w _ rfl
  · obtain ⟨j, rfl⟩ : ∃ j, i = 64 + j := ⟨i - 64, by omega⟩
    obtain ⟨e1, e2, e3⟩ := hi_without (c := c) (j := j)
    rw [e1, e2, e3]
    exact tflip_hi_off (evW c) (loW c) (hiW c) j (hiW_lt hc) (by omega) w _ rfl
theorem or_self_iff (c m : Nat) : (c ||| 2 ^ m = c) ↔ c.testBit m = true := by
  constructor
  · intro h
    have := bit_or_pow c m m
    rw [h] at this
    simpa using this
  · intro h
    refine Nat.eq_of_testBit_eq fun i => ?_
    rw [bit_or_pow]
    by_cases e : m = i
    · subst e; simp [h]
    · simp [e]
theorem row_eq (a b : Nat) : (evW a = evW b ∧ loW a = loW b ∧ hiW a = hiW b) ↔ a = b := by
  constructor
  · rintro ⟨h1, h2, h3⟩
    rw [row_join a, row_join b, h1, h2, h3]
  · intro h; subst h; exact ⟨rfl, rfl, rfl⟩
set_option maxRecDepth 100000 in
theorem tnode_any {c : Nat} (hc : RowLt 152 c) (w : World) : Calls Tryz.prog 71 #[rowV c] w fun e w' => (∃ r : Int, e = .returned (.int .i64 r) ∧ TopIs c r ∧ -1 ≤ r ∧ r ≤ 1000) ∧ Kept w w' := by
  have hlo := loW_lt c
  have hhi := hiW_lt hc
  have HT1 : Hid (∀ m, (hiW c).testBit m = true → (∀ j, (hiW c).testBit j = true → j ≤ m) → TopIs c ((64 + m : Nat) : Int)) := Lib.hid fun m h1 h2 => topIs_hi h1 h2
  have HT2 : Hid (∀ m, hiW c = 0 → (loW c).testBit m = true → (∀ j, (loW c).testBit j = true → j ≤ m) → TopIs c (m : Int)) := Lib.hid fun m h0 h1 h2 => topIs_lo h0 h1 h2
  have HT3 : Hid (hiW c = 0 → loW c = 0 → TopIs c (-1)) := Lib.hid fun h0 h1 => topIs_none h0 h1
  have HLEN : Hid (∀ (x : Nat) (W : World), x < 18446744073709551616 → Calls Tryz.prog 132 #[.int .u64 (x : Nat)] W fun e w' => e = .returned (.int .i64 (Lib.bitLen x)) ∧ W = w') := Lib.hid fun x W h => (Tryz.bits_Len64 (x : Int) W (by omega) (by omega)).mono fun _ _ h => ⟨by rw [h.1]; simp, h.2.symm⟩
  unfold rowV
  generalize evW c = ev at *
  generalize hiW c = hi at hhi HT1 HT2 HT3 ⊢
  generalize loW c = lo at hlo HT1 HT2 HT3 ⊢
  by_cases hhi0 : hi = 0
  · have b1 : ((hi : Int) != 0) = false := by simp [hhi0]
    by_cases hlo0 : lo = 0
    · have HF := Lib.hid (HT3.out hhi0 hlo0)
      have HC := Lib.hid (fun W => HLEN.out lo W hlo)
      have h0 : Lib.bitLen lo = 0 := by rw [hlo0]; rfl
      rw [h0] at HC
      clear hhi0 hlo0 h0
      go_enter Tryz.func71, Tryz.ntmps71
      go_wp2_with (go_at_call 132; refine (HC.out _).mono ?_; rintro e w2 ⟨rfl, rfl⟩)
      go_ret
      exact ⟨⟨_, rfl, HF.out, by omega, by omega⟩, (Kept.refl _).alloc _⟩
    · obtain ⟨m, hm1, hm2, hm3, hm4⟩ := bitLen_top hlo hlo0
      have HC := Lib.hid (fun W => HLEN.out lo W hlo)
      rw [hm1] at HC
      have HF := Lib.hid (HT2.out m hhi0 hm3 hm4)
      obtain ⟨m1, hm⟩ : ∃ x, x = m + 1 := ⟨_, rfl⟩
      rw [← hm] at HC
      have q1 : (m1 : Int) - 1 = (m : Int) := by omega
      have hm9 : m1 ≤ 64 := by omega
      clear hhi0 hlo0 hm1 hm3 hm4 hm
      go_enter Tryz.func71, Tryz.ntmps71
      go_wp2_with (go_at_call 132; refine (HC.out _).mono ?_; rintro e w2 ⟨rfl, rfl⟩)
      go_ret
      exact ⟨⟨_, rfl, HF.out, by omega, by omega⟩, (Kept.refl _).alloc _⟩
  · have b1 : ((hi : Int) != 0) = true := by simp; omega
    obtain ⟨m, hm1, hm2, hm3, hm4⟩ := bitLen_top hhi hhi0
    have HC := Lib.hid (fun W => HLEN.out hi W hhi)
    rw [hm1] at HC
    obtain ⟨z, hz⟩ : ∃ z, z = 64 + m := ⟨_, rfl⟩
    have HF : Hid (TopIs c (z : Int)) := Lib.hid (by rw [hz]; exact HT1.out m hm3 hm4)
    obtain ⟨m1, hm⟩ : ∃ x, x = m + 1 := ⟨_, rfl⟩
    rw [← hm] at HC
    have q1 : (63 : Int) + (m1 : Int) = (z : Int) := by omega
    have hz9 : z ≤ 1000 := by omega
    have hm9 : m1 ≤ 64 := by omega
    clear hhi0 hm1 hm3 hm4 hm hz
    go_enter Tryz.func71, Tryz.ntmps71
    go_wp2_with (go_at_call 132; refine (HC.out _).mono ?_; rintro e w2 ⟨rfl, rfl⟩)
    go_ret
    exact ⟨⟨_, rfl, HF.out, by omega, by omega⟩, (Kept.refl _).alloc _⟩
set_option maxRecDepth 100000 in
set_option maxHeartbeats 4000000 in
theorem thas_any {c : Nat} (hc : RowLt 152 c) (i : Nat) (hi : i < 128) (w : World) : Calls Tryz.prog 72 #[rowV c, .int .i64 i] w fun e w' => e = .returned (.bool (c.testBit (24 + i))) ∧ Kept w w' := by
  have HFL := Lib.hid (fun W => tflip_any hc i hi W)
  have hb : c.testBit (24 + i) = (decide (evW (c ||| 2 ^ (24 + i)) = evW c) && (decide (loW (c ||| 2 ^ (24 + i)) = loW c) && decide (hiW (c ||| 2 ^ (24 + i)) = hiW c))) := by
    rw [Bool.eq_iff_iff, ← or_self_iff, ← row_eq]
    simp
  rw [hb]
  clear hb hc
  unfold rowV at *
  generalize c ||| 2 ^ (24 + i) = d at *
  generalize evW c = x0 at *
  generalize loW c = x1 at *
  generalize hiW c = x2 at *
  generalize evW d = y0 at *
  generalize loW d = y1 at *
  generalize hiW d = y2 at *
  by_cases e0 : y0 = x0
  · subst e0
    by_cases e1 : y1 = x1
    · subst e1
      by_cases e2 : y2 = x2
      · subst e2
        rw [decide_eq_true rfl, decide_eq_true rfl, decide_eq_true rfl]
        go_enter Tryz.func72, Tryz.ntmps72
        go_wp2
        have c0 := ((Kept.refl (w.alloc (.cells #[.int .i64 y0, .int .u64 y1, .int .u64 y2] 103))).drew).cell (p := ⟨w.heap.size, 0, none⟩) (v := .int .i64 y0) (by simp)
        have c1 := ((Kept.refl (w.alloc (.cells #[.int .i64 y0, .int .u64 y1, .int .u64 y2] 103))).drew).cell (p := ⟨w.heap.size, 1, none⟩) (v := .int .u64 y1) (by simp)
        have c2 := ((Kept.refl (w.alloc (.cells #[.int .i64 y0, .int .u64 y1, .int .u64 y2] 103))).drew).cell (p := ⟨w.heap.size, 2, none⟩) (v := .int .u64 y2) (by simp)
        go_region_with (go_at_call 125; (with_reducible refine (HFL.out _).mono ?_); rintro e w3 ⟨rfl, hk3⟩; have t0 := hk3.cell c0; have t1 := hk3.cell c1; have t2 := hk3.cell c2)
        all_goals go_wp2
        all_goals go_ret
        all_goals exact ⟨rfl, ((((Kept.refl _).alloc _).drew)).trans hk3⟩
      · have b2 : ((y2 : Int) == (x2 : Int)) = false := by simp; omega
        rw [decide_eq_true rfl, decide_eq_true rfl, decide_eq_false e2]
        clear e2
        go_enter Tryz.func72, Tryz.ntmps72
        go_wp2
        have c0 := ((Kept.refl (w.alloc (.cells #[.int .i64 y0, .int .u64 y1, .int .u64 x2] 103))).drew).cell (p := ⟨w.heap.size, 0, none⟩) (v := .int .i64 y0) (by simp)
        have c1 := ((Kept.refl (w.alloc (.cells #[.int .i64 y0, .int .u64 y1, .int .u64 x2] 103))).drew).cell (p := ⟨w.heap.size, 1, none⟩) (v := .int .u64 y1) (by simp)
        have c2 := ((Kept.refl (w.alloc (.cells #[.int .i64 y0, .int .u64 y1, .int .u64 x2] 103))).drew).cell (p := ⟨w.heap.size, 2, none⟩) (v := .int .u64 x2) (by simp)
        go_region_with (go_at_call 125; (with_reducible refine (HFL.out _).mono ?_); rintro e w3 ⟨rfl, hk3⟩; have t0 := hk3.cell c0; have t1 := hk3.cell c1; have t2 := hk3.cell c2)
        all_goals go_wp2
        all_goals go_ret
        all_goals exact ⟨rfl, ((((Kept.refl _).alloc _).drew)).trans hk3⟩
    · have b1 : ((y1 : Int) == (x1 : Int)) = false := by simp; omega
      rw [decide_eq_true rfl, decide_eq_false e1]
      clear e1
      go_enter Tryz.func72, Tryz.ntmps72
      go_wp2
      have c0 := ((Kept.refl (w.alloc (.cells #[.int .i64 y0, .int .u64 x1, .int .u64 x2] 103))).drew).cell (p := ⟨w.heap.size, 0, none⟩) (v := .int .i64 y0) (by simp)
      have c1 := ((Kept.refl (w.alloc (.cells #[.int .i64 y0, .int .u64 x1, .int .u64 x2] 103))).drew).cell (p := ⟨w.heap.size, 1, none⟩) (v := .int .u64 x1) (by simp)
      have c2 := ((Kept.refl (w.alloc (.cells #[.int .i64 y0, .int .u64 x1, .int .u64 x2] 103))).drew).cell (p := ⟨w.heap.size, 2, none⟩) (v := .int .u64 x2) (by simp)
      go_region_with (go_at_call 125; (with_reducible refine (HFL.out _).mono ?_); rintro e w3 ⟨rfl, hk3⟩; have t0 := hk3.cell c0; have t1 := hk3.cell c1; have t2 := hk3.cell c2)
      all_goals go_wp2
      all_goals go_ret
      all_goals exact ⟨rfl, ((((Kept.refl _).alloc _).drew)).trans hk3⟩
  · have b0 : ((y0 : Int) == (x0 : Int)) = false := by simp; omega
    rw [decide_eq_false e0]
    clear e0
    go_enter Tryz.func72, Tryz.ntmps72
    go_wp2
    have c0 := ((Kept.refl (w.alloc (.cells #[.int .i64 x0, .int .u64 x1, .int .u64 x2] 103))).drew).cell (p := ⟨w.heap.size, 0, none⟩) (v := .int .i64 x0) (by simp)
    have c1 := ((Kept.refl (w.alloc (.cells #[.int .i64 x0, .int .u64 x1, .int .u64 x2] 103))).drew).cell (p := ⟨w.heap.size, 1, none⟩) (v := .int .u64 x1) (by simp)
    have c2 := ((Kept.refl (w.alloc (.cells #[.int .i64 x0, .int .u64 x1, .int .u64 x2] 103))).drew).cell (p := ⟨w.heap.size, 2, none⟩) (v := .int .u64 x2) (by simp)
    go_region_with (go_at_call 125; (with_reducible refine (HFL.out _).mono ?_); rintro e w3 ⟨rfl, hk3⟩; have t0 := hk3.cell c0; have t1 := hk3.cell c1; have t2 := hk3.cell c2)
    all_goals go_wp2
    all_goals go_ret
    all_goals exact ⟨rfl, ((((Kept.refl _).alloc _).drew)).trans hk3⟩
end Go.Proofs.YteodabnjkikogaaGreat

/-
  Walks: the cutter of truncate: add, emit.
-/
namespace Go.Proofs.YteodabnjkikogaaGreat
open Go.RowKit

theorem info_trow : (Tryz.prog.info? 103).map (fun i => (i.zero, i.size, i.bytes)) = some (some (.agg #[.int .i64 0, .int .u64 0, .int .u64 0]), 3, 24) := by kernel_rfl
set_option maxRecDepth 100000 in
theorem cadd_ev (gl e l h a V : Nat) (w : World) (hc : w.cell? ⟨gl, 0, none⟩ = some (.int .i64 V)) (he : e < 16777216) (hV : V ≤ 24) (ha : a < V) :
    Calls Tryz.prog 69 #[.pointer (some ⟨gl, 0, none⟩), .agg #[.int .i64 e, .int .u64 l, .int .u64 h], .int .i64 a] w fun e' w' => e' = .returned (.agg #[.int .i64 (e ||| 2 ^ a : Nat), .int .u64 l, .int .u64 h]) ∧ Kept w w' := by
  have hgl : gl < w.heap.size := World.block_lt_of_cell? w _ hc
  have h1 : (a : Int) < (V : Int) := by omega
  have h2 : ¬ (a : Int) < 0 := by omega
  have p1 := pow_i64 a (by omega)
  have hp := pow_lt24 (show a < 24 by omega)
  obtain ⟨z, hz⟩ : ∃ z, z = 2 ^ a := ⟨_, rfl⟩
  have p3 : IntKind.i64.wrap ((2 : Int) ^ a) = (z : Int) := by
    rw [show (2 : Int) ^ a = (z : Int) by rw [hz]; simp, IntKind.wrap_i64]; omega
  rw [← hz] at p1 hp ⊢
  have p2 := or_i64 e z (by omega) (by omega)
  clear hz
  obtain ⟨y, hy⟩ : ∃ y, y = e ||| z := ⟨_, rfl⟩
  rw [← hy] at p2 ⊢
  clear hy
  have c0 := (((Kept.refl w).alloc (.cells #[.int .i64 e, .int .u64 l, .int .u64 h] 103)).alloc (.cells #[.int .i64 0, .int .u64 0, .int .u64 0] 103)).cell hc
  go_enter Tryz.func69, Tryz.ntmps69
  go_wp2
  go_region
  all_goals go_wp2
  all_goals exact bodyPost_ret (v := .agg #[.int .i64 y, .int .u64 l, .int .u64 h]) (by simp [results, Tryz.results69, go_sem]) rfl ⟨rfl, by repeat (first | exact Kept.refl _ | apply Kept.drew | apply Kept.alloc | refine Kept.store ?_ (by simp) _ _)⟩
set_option maxRecDepth 100000 in
set_option maxHeartbeats 4000000 in
theorem cadd_node (gl c j V : Nat) (w : World) (hcl : w.cell? ⟨gl, 0, none⟩ = some (.int .i64 V)) (hc : RowLt 152 c) (hV : V ≤ 24) (hj : j < 128) :
    Calls Tryz.prog 69 #[.pointer (some ⟨gl, 0, none⟩), rowV c, .int .i64 (V + j : Nat)] w fun e' w' => e' = .returned (rowV (c ||| 2 ^ (24 + j))) ∧ Kept w w' := by
  have hgl : gl < w.heap.size := World.block_lt_of_cell? w _ hcl
  have HFL := Lib.hid (fun W => tflip_any hc j hj W)
  obtain ⟨a, ha⟩ : ∃ a, a = V + j := ⟨_, rfl⟩
  rw [← ha]
  have h1 : ¬ (a : Int) < (V : Int) := by omega
  have h3 : IntKind.i64.wrap ((a : Int) - (V : Int)) = (j : Int) := by rw [IntKind.wrap_i64]; omega
  have h4 : (a : Int) - (V : Int) = (j : Int) := by omega
  have h5 : IntKind.i64.wrap (j : Int) = (j : Int) := by rw [IntKind.wrap_i64]; omega
  clear ha hc
  unfold rowV at *
  generalize c ||| 2 ^ (24 + j) = d at *
  generalize evW c = x0 at *
  generalize loW c = x1 at *
  generalize hiW c = x2 at *
  generalize evW d = y0 at *
  generalize loW d = y1 at *
  generalize hiW d = y2 at *
  have c0 := (((Kept.refl w).alloc (.cells #[.int .i64 x0, .int .u64 x1, .int .u64 x2] 103)).alloc (.cells #[.int .i64 0, .int .u64 0, .int .u64 0] 103)).cell hcl
  obtain ⟨L, hL⟩ : ∃ L, L = (w.alloc (.cells #[.int .i64 x0, .int .u64 x1, .int .u64 x2] 103)).alloc (.cells #[.int .i64 0, .int .u64 0, .int .u64 0] 103) := ⟨_, rfl⟩
  have HL := Lib.hid hL
  have q0 : L.cell? ⟨w.heap.size, 0, none⟩ = some (.int .i64 x0) := by rw [hL]; exact ((Kept.refl _).alloc _).cell (by simp)
  have q1 : L.cell? ⟨w.heap.size, 1, none⟩ = some (.int .u64 x1) := by rw [hL]; exact ((Kept.refl _).alloc _).cell (by simp)
  have q2 : L.cell? ⟨w.heap.size, 2, none⟩ = some (.int .u64 x2) := by rw [hL]; exact ((Kept.refl _).alloc _).cell (by simp)
  have HR : Hid (RowAt L (w.heap.size + 1) 103 [.int .i64 0, .int .u64 0, .int .u64 0]) := Lib.hid (by
    rw [hL]
    have := RowAt.made (w.alloc (.cells #[.int .i64 x0, .int .u64 x1, .int .u64 x2] 103)) #[.int .i64 0, .int .u64 0, .int .u64 0] 103
    simpa using this)
  have HK : Hid (Kept w L) := Lib.hid (by rw [hL]; exact ((Kept.refl _).alloc _).alloc _)
  rw [← hL] at c0
  clear hL
  go_enter Tryz.func69, Tryz.ntmps69
  go_upto_region 4 with fail
  rw [← HL.out]
  have x0' := ((Kept.refl L).drew).cell q0
  have x1' := ((Kept.refl L).drew).cell q1
  have x2' := ((Kept.refl L).drew).cell q2
  have xc' := ((Kept.refl L).drew).cell c0
  go_region_with (go_at_call 125; (with_reducible refine (HFL.out _).mono ?_); rintro e w3 ⟨rfl, hk3⟩; have hr3 := HR.out.kept ((Kept.refl L).drew.trans hk3); have r0 := hr3.cell (i := 0) (by simp); have r1 := hr3.cell (i := 1) (by simp); have r2 := hr3.cell (i := 2) (by simp); have f0 := hr3.free 0; have f1 := hr3.free 1; have f2 := hr3.free 2; simp only [List.getElem_cons_succ, List.getElem_cons_zero] at r0 r1 r2; have HR3 := Lib.hid hr3; have HK3 := Lib.hid ((Kept.refl L).drew.trans hk3); clear hr3 hk3)
  all_goals go_wp2
  all_goals
    have hr9 := ((HR3.out.store 0 (.int .i64 y0)).store 1 (.int .u64 y1)).store 2 (.int .u64 y2)
    have s0 := hr9.cell (i := 0) (by simp)
    have s1 := hr9.cell (i := 1) (by simp)
    have s2 := hr9.cell (i := 2) (by simp)
    simp only [List.set_cons_succ, List.set_cons_zero, List.getElem_cons_succ, List.getElem_cons_zero] at s0 s1 s2
    exact bodyPost_ret (v := .agg #[.int .i64 y0, .int .u64 y1, .int .u64 y2]) (by simp [results, Tryz.results69, go_sem, s0, s1, s2]) rfl ⟨rfl, (((HK.out.trans HK3.out).store (by omega) 0 _).store (by omega) 1 _).store (by omega) 2 _⟩
theorem cadd_any (gl c V : Nat) (a : Int) (w : World) (hcl : w.cell? ⟨gl, 0, none⟩ = some (.int .i64 V)) (hc : RowLt 152 c) (hV : V ≤ 24) (ha : 0 ≤ a ∧ a < (V : Int) + 128) :
    Calls Tryz.prog 69 #[.pointer (some ⟨gl, 0, none⟩), rowV c, .int .i64 a] w fun e' w' => e' = .returned (rowV (withC V c a)) ∧ Kept w w' := by
  unfold withC cond
  by_cases h : a < V
  · rw [if_pos h]
    have := cadd_ev gl (evW c) (loW c) (hiW c) a.toNat V w hcl (evW_lt c) hV (by omega)
    obtain ⟨e1, e2, e3⟩ := ev_with (c := c) (a := a.toNat) (by omega)
    rw [show ((a.toNat : Nat) : Int) = a by omega] at this
    unfold rowV
    rw [e1, e2, e3]
    exact this
  · rw [if_neg h]
    have := cadd_node gl c (a - V).toNat V w hcl hc hV (by omega)
    rw [show ((V + (a - V).toNat : Nat) : Int) = a by omega] at this
    exact this
end Go.Proofs.YteodabnjkikogaaGreat

/-
  Walks: the cutter of truncate: emit. (Turned by conv5.py.)
-/
namespace Go.Proofs.YteodabnjkikogaaGreat.Tr
open Go.RowKit
variable {y0 y1 y2 y3 y4 y6 : Value}

/-- The cutter: its cells, the rows made. -/
def CutAt (y0 y1 y2 y3 y4 y6 : Value) (w : World) (gl B : Nat) (v : Value) (L : List Nat) : Prop := RowAt w gl 101 [y0, y1, y2, y3, y4, v, y6] ∧ OwnRws w B v L
theorem OwnRws.own_ge {w : World} {B : Nat} {v : Value} {L : List Nat} (h : OwnRws w B v L) {g : Nat} (hg : v.ownBlock = some g) : B ≤ g ∧ g < w.heap.size := h.1.lt g hg
theorem frm_below {gl B : Nat} {v v' : Value} {w w' : World} {L : List Nat} (h : Frm gl v v' w w') (hv : OwnRws w B v L) (hB : B ≤ gl) (hl : B ≤ w.heap.size) : Below B w w' :=
  ⟨h.os, h.tape, h.output, h.size, fun k hk => h.block k (by omega) (by omega) fun e => by have := (hv.own_ge e.symm).1; omega⟩
theorem list_apart {w : World} {gl B : Nat} {v : Value} {L : List Nat} {cs : List Value} (h : OwnRws w B v L) (hx : RowAt w gl 101 cs) : some gl ≠ v.ownBlock := by
  obtain ⟨⟨_, h2⟩, _⟩ := h
  obtain ⟨cur, hx1, _⟩ := hx
  intro e
  rcases h2 with ⟨rfl, _⟩ | ⟨g, cap, cur2, rfl, _, h7, _⟩
  · cases e
  · have : gl = g := by simpa [Value.ownBlock] using e
    subst this
    rw [hx1] at h7
    injection h7 with h7
    injection h7 with _ h8 _
    exact absurd h8 (by decide)
theorem OwnRws.store_other {w : World} {B g : Nat} {v : Value} {L : List Nat} (h : OwnRws w B v L) (hg : some g ≠ v.ownBlock) (i : Nat) (u : Value) : OwnRws (w.setCell ⟨g, i, none⟩ u) B v L := by
  obtain ⟨⟨h1, h2⟩, h3⟩ := h
  refine ⟨⟨h1, h2.imp id ?_⟩, h3⟩
  rintro ⟨b, cap, cur, rfl, h5, h6, h7⟩
  refine ⟨b, cap, cur, rfl, h5, ?_, h7⟩
  have hne : b ≠ g := fun e => hg (by simp [Value.ownBlock, e])
  exact (Below.heap_setCell w ⟨g, i, none⟩ u b hne).trans h6
theorem emit_step {W w5 : World} {gl B n cap gg c : Nat} {L : List Nat} {v : Value} {C O : Obj} (hr : RowAt W gl 101 [y0, y1, y2, y3, y4, v, y6]) (hv : OwnRws W B v L) (hB : B ≤ gl) (hc : RowLt 152 c) (hl : L.length ≤ 4097) (hn : n = L.length)
    (hown : w5.ownsRow B 103 3 (.slice (some ⟨gg, 0, none⟩) (n + 1) cap) (n + 1) (L.flatMap rcells ++ rcells c)) (hg : ((W.alloc C).alloc O).drew.grownBy w5 v.ownBlock) (hat : v.ownBlock = some gg ∨ gg = W.heap.size + 1 + 1) :
    CutAt y0 y1 y2 y3 y4 y6 (w5.setCell ⟨gl, 5, none⟩ (.slice (some ⟨gg, 0, none⟩) (n + 1) cap)) gl B (.slice (some ⟨gg, 0, none⟩) (n + 1) cap) (L ++ [c]) ∧ Frm gl v (.slice (some ⟨gg, 0, none⟩) (n + 1) cap) W (w5.setCell ⟨gl, 5, none⟩ (.slice (some ⟨gg, 0, none⟩) (n + 1) cap)) := by
  have hgl := hr.lt
  have k1 : Kept W ((W.alloc C).alloc O).drew := (((Kept.refl W).alloc C).alloc O).drew
  have hb : w5.heap[gl]? = W.heap[gl]? := (hg.block gl (by simp; omega) (list_apart hv hr)).trans (k1.block gl hgl)
  have hr5 := hr.same hb
  have hv5 : OwnRws w5 B (.slice (some ⟨gg, 0, none⟩) (n + 1) cap) (L ++ [c]) := by
    refine ⟨by rw [List.flatMap_append, List.flatMap_cons, List.flatMap_nil, List.append_nil, List.length_append, List.length_singleton, ← hn]; exact hown, by simp; omega, fun x hx => ?_⟩
    rcases List.mem_append.1 hx with hx | hx
    · exact hv.2.2 x hx
    · simp at hx; subst hx; exact hc
  have hne5 := list_apart hv5 hr5
  refine ⟨⟨?_, hv5.store_other hne5 5 _⟩, ?_⟩
  · have := hr5.store 5 (.slice (some ⟨gg, 0, none⟩) (n + 1) cap)
    simpa using this
  · have h2 : Below B ((W.alloc C).alloc O).drew w5 := grown_below hg (hv.kept k1).1 (by simp; omega)
    have h3 : Below B W (w5.setCell ⟨gl, 5, none⟩ (.slice (some ⟨gg, 0, none⟩) (n + 1) cap)) := Below.setCell ((k1.mono (by omega)).trans h2) hB _
    refine ⟨h3.os, h3.tape, h3.output, h3.size, fun k hk e1 e2 => ?_, ?_⟩
    · exact (Below.heap_setCell w5 ⟨gl, 5, none⟩ _ k e1).trans ((hg.block k (by simp; omega) e2).trans (k1.block k hk))
    · rcases hat with h | h
      · exact .inl h.symm
      · refine .inr fun g hg' => ?_
        have : gg = g := by simpa [Value.ownBlock] using hg'
        omega
set_option maxRecDepth 100000 in
set_option maxHeartbeats 4000000 in
theorem emit_any (gl B c : Nat) (v : Value) (L : List Nat) (W : World) (hL : CutAt y0 y1 y2 y3 y4 y6 W gl B v L) (hc : RowLt 152 c) (hl : L.length ≤ 4097) (hB : B ≤ gl) :
    Calls Tryz.prog 74 #[.pointer (some ⟨gl, 0, none⟩), rowV c] W fun e w' => e = .returned (.tuple #[]) ∧ ∃ v', CutAt y0 y1 y2 y3 y4 y6 w' gl B v' (addK L c) ∧ Frm gl v v' W w' := by
  obtain ⟨hr, hv⟩ := hL
  have hgl := hr.lt
  have c0 := hr.cell (i := 5) (by simp)
  have f0 := hr.free 5
  simp only [List.getElem_cons_succ, List.getElem_cons_zero] at c0
  have hne := list_apart hv hr
  obtain ⟨a, cp, hv2⟩ := hv.at.shape
  obtain ⟨n, hn⟩ : ∃ n, n = L.length := ⟨_, rfl⟩
  unfold addK
  rw [← hn] at hv2 hl ⊢
  subst hv2
  have HR := Lib.hid hr
  have HV := Lib.hid hv
  have HNE := Lib.hid hne
  have HN := Lib.hid hn
  unfold rowV
  have HC : Hid (RowLt 152 c) := hc
  have HCC : Hid (rcells c = [.int .i64 (evW c), .int .u64 (loW c), .int .u64 (hiW c)]) := rfl
  generalize evW c = x0 at *
  generalize loW c = x1 at *
  generalize hiW c = x2 at *
  clear hr hv hne hn hc
  by_cases h : n ≤ 4096
  · rw [if_pos h]
    have h' : (n : Int) ≤ 4096 := by omega
    obtain ⟨i0, hi0, hz0, hz1, hz2⟩ := info_parts info_trow
    have I0 := Lib.hid hi0
    have I1 := Lib.hid hz0
    have I2 := Lib.hid hz1
    have I3 := Lib.hid hz2
    clear hi0 hz0 hz1 hz2 h
    have HO2 : Hid (∀ C O, (((W.alloc C).alloc O).drew).ownsRow B 103 3 (.slice a n cp) n (L.flatMap rcells)) := Lib.hid fun C O => by
      have h := (HV.out.kept ((((Kept.refl W).alloc C).alloc O).drew)).1
      rw [← HN.out] at h; exact h
    have cA : ∀ C, (W.alloc C).drew.cell? ⟨gl, 5, none⟩ = some (.slice a n cp) := fun C => (((Kept.refl W).alloc C).drew).cell c0
    have cB : ∀ C O, ((W.alloc C).alloc O).drew.cell? ⟨gl, 5, none⟩ = some (.slice a n cp) := fun C O => ((((Kept.refl W).alloc C).alloc O).drew).cell c0
    go_enter Tryz.func74, Tryz.ntmps74
    go_wp2
    go_region_law ((refine step_append_lies _ (by rfl) _ _ _ (by rfl) B 103 i0 _ 3 24 Tryz.underlying99 I0.out I1.out I2.out I3.out rfl (by omega) (.slice a n cp) n _ (by rfl) (HO2.out _ _) ⟨W.heap.size + 1, 0, none⟩ 1 1 [.int .i64 x0, .int .u64 x1, .int .u64 x2] (by rfl) (by rfl) (World.news_of_block (cs := #[.int .i64 x0, .int .u64 x1, .int .u64 x2]) (t := 103) (fr := (0, 0)) (heap_new2d W _ _)) (by simp [Value.oneCell']) (by omega) (by unfold maxLen; omega) (by omega) (by simp; omega) (W.heap.size + 1 + 1) (by simp) ?_; intro gg cap w5 hown5 hgrow hat hlt5; have st5 := hgrow.cell (a := ⟨gl, 5, none⟩) (v := .slice a n cp) (cB _ _) HNE.out; have sf5 := (World.frozen?_of_block (a := ⟨gl, 5, none⟩) (hgrow.block gl (by simp; omega) HNE.out)).trans ((Below.frozen ((((Kept.refl W).alloc _).alloc _).drew) (p := ⟨gl, 5, none⟩) (by simp; omega)).trans f0)))
    all_goals go_wp2
    all_goals
     have hs := emit_step HR.out HV.out hB HC.out (by have := HN.out; omega) HN.out (c := c) (by rw [HCC.out]; exact hown5) hgrow hat
     go_end0
     exact ⟨rfl, _, hs⟩
  · rw [if_neg h]
    have h' : ¬ (n : Int) ≤ 4096 := by omega
    go_enter Tryz.func74, Tryz.ntmps74
    go_wp2
    go_end0
    exact ⟨rfl, _, ⟨HR.out.kept ((Kept.refl _).alloc _), HV.out.kept ((Kept.refl _).alloc _)⟩, Frm.of_kept ((Kept.refl _).alloc _)⟩
end Go.Proofs.YteodabnjkikogaaGreat.Tr

/-
  Plain: the top-down search with a limit: rows beyond it go to the frontier.
-/
namespace Go.Proofs.YteodabnjkikogaaGreat

/-- Rows beyond the limit are taken out; the least of the others stay. -/
def settleR (P : Nat → Bool) (M : List Nat) : List Nat := minK (M.filter fun r => !P (evW r))
def settleF (P : Nat → Bool) (M F : List Nat) : List Nat := minK (F ++ (M.filter fun r => P (evW r)).map evW)
def settleK (P : Nat → Bool) (M F : List Nat) : Option (List Nat × List Nat) :=
  if (settleR P M).length ≤ 1024 ∧ (settleF P M F).length ≤ 1024 then some (settleR P M, settleF P M F) else none
def runT (V : Nat) (P : Nat → Bool) (nodes : List Nd) : Nat → List Nat → List Nat → Option (List Nat × List Nat)
  | 0, R, F => some (R, F)
  | i + 1, R, F =>
    if R.any (fun r => r.testBit (24 + i)) = true then
      if (expK V (nodes.getD i noNd) i R).length ≤ 4096 then
        (settleK P (expK V (nodes.getD i noNd) i R) F).bind fun p => runT V P nodes i p.1 p.2
      else none
    else runT V P nodes i R F
def topT (V T : Nat) (P : Nat → Bool) (nodes : List Nd) : Option (List Nat × List Nat) :=
  (settleK P [cond V T] []).bind fun p => runT V P nodes nodes.length p.1 p.2

theorem settleK_some {P : Nat → Bool} {M F : List Nat} {p : List Nat × List Nat} (h : settleK P M F = some p) : p = (settleR P M, settleF P M F) ∧ (settleR P M).length ≤ 1024 ∧ (settleF P M F).length ≤ 1024 := by
  unfold settleK at h
  split at h
  · cases h; exact ⟨rfl, by assumption⟩
  · cases h
theorem mem_settleR {P : Nat → Bool} {M : List Nat} {r : Nat} (h : r ∈ settleR P M) : r ∈ M ∧ P (evW r) = false := by
  have := List.mem_filter.1 (mem_minK h)
  simpa using this
theorem mem_settleF {P : Nat → Bool} {M F : List Nat} {t : Nat} (h : t ∈ settleF P M F) : t ∈ F ∨ ∃ r ∈ M, P (evW r) = true ∧ t = evW r := by
  rcases List.mem_append.1 (mem_minK h) with h | h
  · exact .inl h
  · obtain ⟨r, hr, rfl⟩ := List.mem_map.1 h
    have := List.mem_filter.1 hr
    exact .inr ⟨r, this.1, this.2, rfl⟩
/-- What a state satisfies: its own events at least. -/
theorem sat_ev {V s : Nat} {nodes : List Nd} {r : Nat} (h : sat (holdsP V s nodes) r) : subN (evW r) s = true := subN_iff.2 fun i hi => by
  rw [evW_bit] at hi
  simp only [Bool.and_eq_true, decide_eq_true_eq] at hi
  have := h i hi.2
  unfold holdsP at this
  rw [if_pos hi.1] at this
  exact this
theorem settle_says {V s : Nat} {nodes : List Nd} (P : Nat → Bool) (M F : List Nat) :
    (upP (settleR P M) (holdsP V s nodes) → upP M (holdsP V s nodes)) ∧ (upP M (holdsP V s nodes) → upP (settleR P M) (holdsP V s nodes) ∨ up (settleF P M F) s) ∧ (up F s → up (settleF P M F) s) := by
  refine ⟨fun h => ?_, fun h => ?_, fun h => ?_⟩
  · unfold settleR at h
    rw [upP_minK] at h
    obtain ⟨t, ht, hs⟩ := h
    exact ⟨t, (List.mem_filter.1 ht).1, hs⟩
  · obtain ⟨t, ht, hs⟩ := h
    cases hp : P (evW t) with
    | false =>
      left
      unfold settleR
      rw [upP_minK]
      exact ⟨t, List.mem_filter.2 ⟨ht, by simp [hp]⟩, hs⟩
    | true =>
      right
      unfold settleF
      rw [up_minK, up_append]
      exact .inr ⟨evW t, List.mem_map.2 ⟨t, List.mem_filter.2 ⟨ht, hp⟩, rfl⟩, sat_ev hs⟩
  · unfold settleF
    rw [up_minK, up_append]
    exact .inl h
structure TSays (V s : Nat) (nodes : List Nd) (P : Nat → Bool) (R F R' F' : List Nat) : Prop where
  back : upP R' (holdsP V s nodes) → upP R (holdsP V s nodes)
  forth : upP R (holdsP V s nodes) → upP R' (holdsP V s nodes) ∨ up F' s
  front : up F s → up F' s
  rows : (∀ r ∈ R, P (evW r) = false) → ∀ r ∈ R', P (evW r) = false
  outs : (∀ t ∈ F, P t = true) → ∀ t ∈ F', P t = true
  canR : Good R → Good R'
  canF : Good F → Good F'
  mkF : (∀ t ∈ F, t < 16777216) → ∀ t ∈ F', t < 16777216
theorem TSays.trans {V s : Nat} {nodes : List Nd} {P : Nat → Bool} {R F R1 F1 R2 F2 : List Nat} (h : TSays V s nodes P R F R1 F1) (k : TSays V s nodes P R1 F1 R2 F2) : TSays V s nodes P R F R2 F2 :=
  ⟨fun x => h.back (k.back x), fun x => (h.forth x).elim (fun y => k.forth y) fun y => .inr (k.front y), fun x => k.front (h.front x), fun x => k.rows (h.rows x), fun x => k.outs (h.outs x), fun x => k.canR (h.canR x), fun x => k.canF (h.canF x), fun x => k.mkF (h.mkF x)⟩
theorem says_settle {V s : Nat} {nodes : List Nd} (P : Nat → Bool) (M F : List Nat) {p : List Nat × List Nat} (h : settleK P M F = some p) : TSays V s nodes P M F p.1 p.2 := by
  obtain ⟨rfl, h1, h2⟩ := settleK_some h
  obtain ⟨a, b, c⟩ := settle_says (V := V) (s := s) (nodes := nodes) P M F
  refine ⟨a, b, c, fun _ r hr => (mem_settleR hr).2, fun hF t ht => ?_, fun _ => ⟨can_minK _, h1⟩, fun _ => ⟨can_minK _, h2⟩, fun hF t ht => ?_⟩
  · rcases mem_settleF ht with h | ⟨r, _, h, rfl⟩
    · exact hF t h
    · exact h
  · rcases mem_settleF ht with h | ⟨r, _, _, rfl⟩
    · exact hF t h
    · exact evW_lt r
theorem runT_says {V T : Nat} {f : Fm} (hok : Ok f V T) (hs : synK V T f = true) (P : Nat → Bool) (s : Nat) : ∀ i R F p, i ≤ f.nodes.length → (∀ r ∈ R, Marked V (belowK V T f.nodes) r) → (∀ r ∈ R, RowLt (24 + i) r) → runT V P f.nodes i R F = some p →
    TSays V s f.nodes P R F p.1 p.2 ∧ ∀ r ∈ p.1, RowLt 24 r := by
  intro i
  induction i with
  | zero =>
    intro R F p _ _ hl h
    cases h
    exact ⟨⟨fun h => h, fun h => .inl h, fun h => h, fun h => h, fun h => h, fun h => h, fun h => h, fun h => h⟩, hl⟩
  | succ i ih =>
    intro R F p hi hm hl h
    have hil : i < f.nodes.length := by omega
    have hnd : f.nodes.getD i noNd = f.nodes[i] := by simp [List.getD_eq_getElem?_getD, hil]
    unfold runT at h
    rw [hnd] at h
    split at h
    · split at h
      · cases h1 : settleK P (expK V f.nodes[i] i R) F with
        | none => rw [h1] at h; cases h
        | some q =>
          rw [h1] at h
          have h2 : runT V P f.nodes i q.1 q.2 = some p := h
          have hq := (settleK_some h1).1
          have hmE := marked_expK (i := i) hok.v24 hm (fun hk a ha => ⟨(hok.args i hil a ha).1, below_closed V T f hok i hil hk a ha⟩)
          have hlE := rowLt_expK hok.v24 (hok.args i hil) hl
          have hup := upP_expK V (holdsP V s f.nodes) (valsK V s f.nodes) f.nodes[i] i R fun r hr hb => by
            have hmk := hm r hr i hb
            have hkd := kind_mono hok hs i hil hmk
            refine ⟨says_args hok s _ fun a ha => (hok.args i hil a ha).1, hkd, fun h4 => ?_, holds_node hok s i hil⟩
            have := hok.arity i hil
            unfold chkK at this
            rw [if_neg (by omega), if_pos h4] at this
            split at this
            · omega
            · cases this
          have hset := says_settle (V := V) (s := s) (nodes := f.nodes) P _ F h1
          obtain ⟨h3, h4⟩ := ih q.1 q.2 p (by omega) (fun r hr => hmE r (by rw [hq] at hr; exact (mem_settleR hr).1)) (fun r hr => hlE r (by rw [hq] at hr; exact (mem_settleR hr).1)) h2
          refine ⟨TSays.trans ⟨fun x => hup.1 (hset.back x), fun x => hset.forth (hup.2 x), hset.front, fun _ r hr => ?_, hset.outs, fun _ => ?_, hset.canF, hset.mkF⟩ h3, h4⟩
          · rw [hq] at hr; exact (mem_settleR hr).2
          · rw [hq]; exact ⟨can_minK _, (settleK_some h1).2.1⟩
      · cases h
    · rename_i hany
      exact ih R F p (by omega) hm (rowLt_skip hl hany) h
/-- The answer of the search with a limit. -/
structure TopT (V T : Nat) (f : Fm) (P : Nat → Bool) (R F : List Nat) : Prop where
  goodR : Good R
  goodF : Good F
  mkR : ∀ r ∈ R, r < 16777216
  mkF : ∀ r ∈ F, r < 16777216
  kept : ∀ r ∈ R, P r = false
  outs : ∀ r ∈ F, P r = true
  sound : ∀ s, up R s → (valsK V s f.nodes).getD T false = true
  covers : ∀ s, (valsK V s f.nodes).getD T false = true → up R s ∨ up F s
theorem evW_of_lt {r : Nat} (h : r < 16777216) : evW r = r := Nat.mod_eq_of_lt h
theorem topT_says {V T : Nat} {f : Fm} (hok : Ok f V T) (hs : synK V T f = true) (P : Nat → Bool) {p : List Nat × List Nat} (h : topT V T P f.nodes = some p) : TopT V T f P p.1 p.2 := by
  have hT := hok.tlt
  have hV := hok.v24
  have hlt : ∀ r ∈ [cond V (T : Int)], RowLt (24 + f.nodes.length) r := by
    intro r hr
    simp at hr
    subst hr
    exact rowLt_cond (by omega) hV
  have hmk : ∀ r ∈ [cond V (T : Int)], Marked V (belowK V T f.nodes) r := by
    intro r hr
    simp at hr
    subst hr
    refine marked_cond (by omega) hV ?_
    unfold belowK
    refine belowGo_keep V f.nodes _ _ _ ?_
    rw [List.getD_eq_getElem?_getD, Int.toNat_natCast, List.getElem?_set_self (by simp; omega)]; rfl
  unfold topT at h
  cases h1 : settleK P [cond V (T : Int)] [] with
  | none => rw [h1] at h; cases h
  | some q =>
    rw [h1] at h
    have h2 : runT V P f.nodes f.nodes.length q.1 q.2 = some p := h
    have hq := (settleK_some h1).1
    have hmq : ∀ r ∈ q.1, Marked V (belowK V T f.nodes) r := fun r hr => hmk r (by rw [hq] at hr; exact (mem_settleR hr).1)
    have hlq : ∀ r ∈ q.1, RowLt (24 + f.nodes.length) r := fun r hr => hlt r (by rw [hq] at hr; exact (mem_settleR hr).1)
    have hT0 : ∀ s, TSays V s f.nodes P [cond V (T : Int)] [] p.1 p.2 := fun s => (says_settle P _ _ h1).trans (runT_says hok hs P s _ _ _ p (Nat.le_refl _) hmq hlq h2).1
    have h24 := (runT_says hok hs P 0 _ _ _ p (Nat.le_refl _) hmq hlq h2).2
    have hR24 : ∀ r ∈ p.1, r < 16777216 := fun r hr => rowLt_num (h24 r hr)
    have hup : ∀ s, up p.1 s ↔ upP p.1 (holdsP V s f.nodes) := by
      intro s
      unfold up upP
      have : ∀ r ∈ p.1, (subN r s = true ↔ sat (holdsP V s f.nodes) r) := by
        intro r hr
        rw [subN_iff]
        unfold sat holdsP
        constructor
        · intro h i hi
          rw [if_pos (h24 r hr i hi)]; exact h i hi
        · intro h i hi
          have := h i hi
          rw [if_pos (h24 r hr i hi)] at this; exact this
      exact ⟨fun ⟨r, hr, h⟩ => ⟨r, hr, (this r hr).1 h⟩, fun ⟨r, hr, h⟩ => ⟨r, hr, (this r hr).2 h⟩⟩
    have htop : ∀ s, upP [cond V (T : Int)] (holdsP V s f.nodes) ↔ (valsK V s f.nodes).getD T false = true := by
      intro s
      rw [upP_one]
      have := says_args hok s [(T : Int)] (by simp) (T : Int) (by simp)
      rw [this]; simp
    refine ⟨(runT_says hok hs P 0 _ _ _ p (Nat.le_refl _) hmq hlq h2).1.canR (by rw [hq]; exact ⟨can_minK _, (settleK_some h1).2.1⟩), (hT0 0).canF good_nil, hR24, (hT0 0).mkF (by simp), fun r hr => ?_, (hT0 0).outs (by simp), fun s hu => ?_, fun s hv => ?_⟩
    · have := (runT_says hok hs P 0 _ _ _ p (Nat.le_refl _) hmq hlq h2).1.rows (fun r hr => by rw [hq] at hr; exact (mem_settleR hr).2) r hr
      rw [evW_of_lt (hR24 r hr)] at this
      exact this
    · exact (htop s).1 ((hT0 s).back ((hup s).1 hu))
    · rw [hup]; exact (hT0 s).forth ((htop s).2 hv)
/-- Where the search with a limit stands: rows L in some order, the frontier, what is still to come. -/
structure TStand (V T : Nat) (f : Fm) (P : Nat → Bool) (L F : List Nat) (m : Nat) : Prop where
  le : m ≤ f.nodes.length
  lt : ∀ r ∈ L, RowLt (24 + m) r
  mkd : ∀ r ∈ L, Marked V (belowK V T f.nodes) r
  len : L.length ≤ 1024
  lenF : F.length ≤ 1024
  mkF : ∀ t ∈ F, t < 16777216
  run : ∃ R : List Nat, L.Perm R ∧ topT V T P f.nodes = runT V P f.nodes m R F
theorem settleR_perm {P : Nat → Bool} {L R : List Nat} (h : L.Perm R) : settleR P L = settleR P R := minK_perm (h.filter _)
theorem settleF_perm {P : Nat → Bool} {L R F : List Nat} (h : L.Perm R) : settleF P L F = settleF P R F := minK_perm (((h.filter _).map _).append_left _)
theorem TStand.start {V T : Nat} {f : Fm} (hok : Ok f V T) {P : Nat → Bool} {M F : List Nat} (hM : M.Perm (settleR P [cond V T])) (hF : F = settleF P [cond V T] []) (hl : M.length ≤ 1024) (hlF : F.length ≤ 1024) : TStand V T f P M F f.nodes.length := by
  have hT := hok.tlt
  have hmem : ∀ r ∈ M, r = cond V T := fun r hr => by simpa using (mem_settleR (hM.mem_iff.1 hr)).1
  refine ⟨Nat.le_refl _, fun r hr => ?_, fun r hr => ?_, hl, hlF, fun t ht => ?_, ⟨settleR P [cond V T], hM, ?_⟩⟩
  · rw [hmem r hr]; exact rowLt_cond (by omega) hok.v24
  · rw [hmem r hr]
    refine marked_cond (by omega) hok.v24 ?_
    unfold belowK
    refine belowGo_keep V f.nodes _ _ _ ?_
    rw [List.getD_eq_getElem?_getD, Int.toNat_natCast, List.getElem?_set_self (by simp; omega)]; rfl
  · rw [hF] at ht
    rcases mem_settleF ht with h | ⟨r, _, _, rfl⟩
    · cases h
    · exact evW_lt r
  · unfold topT settleK
    rw [if_pos ⟨by rw [← hM.length_eq]; exact hl, by rw [← hF]; exact hlF⟩, hF]; rfl
theorem TStand.bad {V T : Nat} {P : Nat → Bool} {nodes : List Nd} (h : 1024 < (settleR P [cond V T]).length ∨ 1024 < (settleF P [cond V T] []).length) : topT V T P nodes = none := by
  unfold topT settleK
  rw [if_neg (by omega)]; rfl
theorem runT_skip (V : Nat) (P : Nat → Bool) (nodes : List Nd) (i : Nat) (R F : List Nat) : ∀ m, i ≤ m → (∀ j, i ≤ j → j < m → R.any (fun r => r.testBit (24 + j)) = false) → runT V P nodes m R F = runT V P nodes i R F := by
  intro m
  induction m with
  | zero => intro h _; have : i = 0 := by omega
            subst this; rfl
  | succ m ih =>
    intro h hj
    by_cases e : i = m + 1
    · subst e; rfl
    · rw [← ih (by omega) fun j h1 h2 => hj j h1 (by omega)]
      conv => lhs; unfold runT
      rw [if_neg (by rw [hj m (by omega) (by omega)]; simp)]
theorem TStand.done {V T : Nat} {f : Fm} {P : Nat → Bool} {L F : List Nat} {m : Nat} (h : TStand V T f P L F m) (hn : ∀ c ∈ L, ∀ j, c.testBit (24 + j) = true → False) : ∃ R, topT V T P f.nodes = some (R, F) ∧ L.Perm R := by
  obtain ⟨R, hp, hr⟩ := h.run
  refine ⟨R, ?_, hp⟩
  rw [hr, runT_skip V P f.nodes 0 R F m (Nat.zero_le _) fun j _ _ => ?_]
  · rfl
  · rw [List.any_eq_false]
    intro r hr hb
    exact hn r (hp.mem_iff.2 hr) j hb
theorem TStand.at {V T : Nat} {f : Fm} {P : Nat → Bool} {L F : List Nat} {m i : Nat} (h : TStand V T f P L F m) (hi : ∃ c ∈ L, c.testBit (24 + i) = true) (hmax : ∀ c ∈ L, ∀ j, c.testBit (24 + j) = true → j ≤ i) :
    i < m ∧ (belowK V T f.nodes).getD (V + i) false = true ∧ ∃ R : List Nat, L.Perm R ∧ R.any (fun r => r.testBit (24 + i)) = true ∧ topT V T P f.nodes = runT V P f.nodes (i + 1) R F := by
  obtain ⟨c, hc, hb⟩ := hi
  have him : i < m := by have := h.lt c hc _ hb; omega
  obtain ⟨R, hp, hr⟩ := h.run
  refine ⟨him, h.mkd c hc i hb, R, hp, List.any_eq_true.2 ⟨c, hp.mem_iff.1 hc, hb⟩, ?_⟩
  rw [hr, runT_skip V P f.nodes (i + 1) R F m (by omega) fun j h1 _ => ?_]
  rw [List.any_eq_false]
  intro r hr hb
  have := hmax r (hp.mem_iff.2 hr) j hb
  omega
theorem TStand.full {V T : Nat} {f : Fm} {P : Nat → Bool} {L F : List Nat} {m i : Nat} (h : TStand V T f P L F m) (hi : ∃ c ∈ L, c.testBit (24 + i) = true) (hmax : ∀ c ∈ L, ∀ j, c.testBit (24 + j) = true → j ≤ i)
    (hl : 4096 < (expK V (f.nodes.getD i noNd) i L).length) : topT V T P f.nodes = none := by
  obtain ⟨_, _, R, hp, ha, hr⟩ := h.at hi hmax
  rw [hr]
  conv => lhs; unfold runT
  rw [if_pos ha, if_neg (by rw [← (expK_perm (V := V) (i := i) (x := f.nodes.getD i noNd) hp).length_eq]; omega)]
theorem TStand.many {V T : Nat} {f : Fm} {P : Nat → Bool} {L F : List Nat} {m i : Nat} (h : TStand V T f P L F m) (hi : ∃ c ∈ L, c.testBit (24 + i) = true) (hmax : ∀ c ∈ L, ∀ j, c.testBit (24 + j) = true → j ≤ i)
    (hl : 1024 < (settleR P (expK V (f.nodes.getD i noNd) i L)).length ∨ 1024 < (settleF P (expK V (f.nodes.getD i noNd) i L) F).length) : topT V T P f.nodes = none := by
  obtain ⟨_, _, R, hp, ha, hr⟩ := h.at hi hmax
  have he := expK_perm (V := V) (i := i) (x := f.nodes.getD i noNd) hp
  rw [hr]
  conv => lhs; unfold runT
  rw [if_pos ha]
  split
  · unfold settleK
    rw [if_neg (by rw [← settleR_perm he, ← settleF_perm he]; omega)]; rfl
  · rfl
theorem TStand.next {V T : Nat} {f : Fm} (hok : Ok f V T) {P : Nat → Bool} {L M F F' : List Nat} {m i : Nat} (h : TStand V T f P L F m) (hi : ∃ c ∈ L, c.testBit (24 + i) = true) (hmax : ∀ c ∈ L, ∀ j, c.testBit (24 + j) = true → j ≤ i)
    (hl4 : (expK V (f.nodes.getD i noNd) i L).length ≤ 4096) (hM : M.Perm (settleR P (expK V (f.nodes.getD i noNd) i L))) (hF : F' = settleF P (expK V (f.nodes.getD i noNd) i L) F) (hl : M.length ≤ 1024) (hlF : F'.length ≤ 1024) : TStand V T f P M F' i := by
  obtain ⟨him, hmk, R, hp, ha, hr⟩ := h.at hi hmax
  have hle := h.le
  have hil : i < f.nodes.length := by omega
  have hnd : f.nodes.getD i noNd = f.nodes[i] := by simp [List.getD_eq_getElem?_getD, hil]
  have he := expK_perm (V := V) (i := i) (x := f.nodes.getD i noNd) hp
  have hmem : ∀ r ∈ M, r ∈ expK V (f.nodes.getD i noNd) i L := fun r hr => (mem_settleR (hM.mem_iff.1 hr)).1
  refine ⟨by omega, fun r hr => ?_, fun r hr => ?_, hl, hlF, fun t ht => ?_, ⟨settleR P (expK V (f.nodes.getD i noNd) i R), by rw [← settleR_perm he]; exact hM, ?_⟩⟩
  · refine rowLt_expK hok.v24 (by rw [hnd]; exact hok.args i hil) (fun c hc j hj => ?_) r (hmem r hr)
    by_cases h24 : j < 24
    · omega
    · have := hmax c hc (j - 24) (by rw [show 24 + (j - 24) = j by omega]; exact hj)
      omega
  · exact marked_expK hok.v24 h.mkd (fun hk a ha => by rw [hnd] at ha; exact ⟨(hok.args i hil a ha).1, below_closed V T f hok i hil hk a ha⟩) r (hmem r hr)
  · rw [hF] at ht
    rcases mem_settleF ht with h2 | ⟨r, _, _, rfl⟩
    · exact h.mkF t h2
    · exact evW_lt r
  · rw [hr]
    conv => lhs; unfold runT
    rw [if_pos ha, if_pos (by rw [← he.length_eq]; exact hl4)]
    unfold settleK
    rw [← settleR_perm he, ← settleF_perm he, if_pos ⟨by rw [← hM.length_eq]; exact hl, by rw [← hF]; exact hlF⟩, hF]; rfl
end Go.Proofs.YteodabnjkikogaaGreat
