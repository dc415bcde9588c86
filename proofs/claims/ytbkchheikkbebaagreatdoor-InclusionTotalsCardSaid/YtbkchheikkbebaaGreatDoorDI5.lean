import Derived.WalkKit
import Derived.WalkSpells
import Derived.WalkLawsBesides
import Derived.Deep.QuietTactic
import Derived.BigQuiet
import Derived.Lib.Hide
import Derived.Shelf.Abstract
import Derived.Deep.RegionWith
import Derived.Laws.AppendOwnNone
import Derived.Lib.AppendZerosOnto
import Derived.Lib.SliceRun
import Derived.Lib.SlicesCompact
import Derived.Shelf.SlSortCmp.NoneTotal
import Derived.Maps.OwnOps
import Derived.Maps.OwnSet
import Derived.Maps.Views
import Derived.Deep.MidRow
import Derived.Deep.RegionHeld3
import Derived.Deep.AppendLies
import Derived.Deep.RegionLaw
import Derived.IntWalk
import Derived.StillTailTactics
import Derived.ProofKit
import Derived.OpenShut
import Derived.SizedLaws
import Derived.Lib.SmallJoins
import Derived.Deep.Slices
import Derived.Deep.Fields
import Derived.Deep.Strs
import Derived.Carry
import Derived.Deep.DeepCutAuto
import Derived.BigRegion
import Derived.ChangeAlike
import Derived.Deep.LoopGhost
import Derived.Lib.ItoaNum
import Derived.RegionTactic
import Derived.Shelf.SlSortCmp.PdqK
import Derived.Sort.LotA
import Derived.Sort.LotD2
import Derived.Lib.BitFns
import Derived.Deep.CutBlock
import Derived.Test.YtbkchheikkbebaaGreatDoorDI4
import Derived.Test.YtbkchheikkbebaaGreatDoorDI1
/-
  Walks: faultlineref02.Parts, From.
-/
namespace Go.Proofs.YtbkchheikkbebaaGreatDoor
open Go.RowKit

set_option maxRecDepth 100000 in
set_option maxHeartbeats 4000000 in
theorem refparts_any (v : Value) (r : Rw) (w : World) (hv : RatAt w v r) (hs : r.Short 137438953472) : Calls Tryz.prog 169 #[v] w fun e w' => (∃ u1 u2, e = .returned (.tuple #[.bool (partsR r).1, u1, u2]) ∧ WdsAt w' u1 (partsR r).2.1 ∧ WdsAt w' u2 (partsR r).2.2) ∧ Kept w w' := by
  have HVA := Lib.hid (fun W (hk : Kept w W) => refvalid_any v r W (hv.kept hk) hs)
  obtain ⟨neg, num, den⟩ := r
  obtain ⟨u1, u2, rfl, h1, h2⟩ := hv
  simp only at h1 h2
  obtain ⟨a1, c1, rfl⟩ := h1.shape
  obtain ⟨a2, c2, rfl⟩ := h2.shape
  obtain ⟨n1, hn1⟩ : ∃ n1, n1 = num.length := ⟨_, rfl⟩
  obtain ⟨n2, hn2⟩ : ∃ n2, n2 = den.length := ⟨_, rfl⟩
  rw [← hn1] at h1 HVA ⊢
  rw [← hn2] at h2 HVA ⊢
  have H1 := Lib.hid h1
  have H2 := Lib.hid h2
  obtain ⟨w1, hw1⟩ : ∃ w1, w1 = w.alloc (.cells #[.bool neg, .slice a1 n1 c1, .slice a2 n2 c2] 39) := ⟨_, rfl⟩
  have HR : Hid (RowAt w1 w.heap.size 39 [.bool neg, .slice a1 n1 c1, .slice a2 n2 c2]) := Lib.hid (by rw [hw1]; exact RowAt.made w #[.bool neg, .slice a1 n1 c1, .slice a2 n2 c2] 39)
  have HK0 : Hid (Kept w w1) := Lib.hid (by rw [hw1]; exact (Kept.refl w).alloc _)
  have q0 := HR.out.cell (i := 0) (by simp)
  have q1 := HR.out.cell (i := 1) (by simp)
  have q2 := HR.out.cell (i := 2) (by simp)
  simp only [List.getElem_cons_succ, List.getElem_cons_zero] at q0 q1 q2
  have HW1 := Lib.hid hw1
  clear hw1
  by_cases hg : validR ⟨neg, num, den⟩ = true ∧ num ≠ []
  · have hP : partsR ⟨neg, num, den⟩ = (neg, num, den) := by unfold partsR; rw [if_pos hg]
    rw [hP]
    rw [hg.1] at HVA
    have hb1 : ((n1 : Int) == 0) = false := by
      have : n1 ≠ 0 := fun h => hg.2 (List.eq_nil_of_length_eq_zero (hn1.symm.trans h))
      simp; exact this
    clear h1 h2 hP hg hn1 hn2 hs
    go_enter Tryz.func169, Tryz.ntmps169
    go_wp2_with fail
    rw [← HW1.out]
    refine (HVA.out _ HK0.out).mono ?_
    rintro e w2 ⟨rfl, hk2⟩
    have y0 := hk2.cell q0
    have y1 := hk2.cell q1
    have y2 := hk2.cell q2
    have HK2 := Lib.hid (HK0.out.trans hk2)
    clear hk2 q0 q1 q2
    go_wp2_with fail
    go_quiet (fail)
    go_wp2
    go_ret3
    exact ⟨⟨_, _, rfl, H1.out.kept (HK2.out.drewN _), H2.out.kept (HK2.out.drewN _)⟩, HK2.out.drewN _⟩
  · have hP : partsR ⟨neg, num, den⟩ = (false, [], [1]) := by unfold partsR; rw [if_neg hg]
    rw [hP]
    by_cases hvv : validR ⟨neg, num, den⟩ = true
    · have h0 : n1 = 0 := by
        rw [hn1]
        by_cases h : num = []
        · rw [h]; rfl
        · exact absurd ⟨hvv, h⟩ hg
      rw [hvv] at HVA
      subst h0
      clear h1 h2 hP hg hn1 hn2 hs hvv
      go_enter Tryz.func169, Tryz.ntmps169
      go_wp2_with fail
      rw [← HW1.out]
      refine (HVA.out _ HK0.out).mono ?_
      rintro e w2 ⟨rfl, hk2⟩
      have y1 := hk2.cell q1
      have HK2 := Lib.hid (HK0.out.trans hk2)
      clear hk2 q0 q1 q2
      go_wp2
      go_ret3
      exact ⟨⟨_, _, rfl, WdsAt.nil _, wds_new1 _ 1 (by omega)⟩, HK2.out.alloc _⟩
    · have hvf : validR ⟨neg, num, den⟩ = false := by simpa using hvv
      rw [hvf] at HVA
      clear h1 h2 hP hg hn1 hn2 hs hvv hvf
      go_enter Tryz.func169, Tryz.ntmps169
      go_wp2_with fail
      rw [← HW1.out]
      refine (HVA.out _ HK0.out).mono ?_
      rintro e w2 ⟨rfl, hk2⟩
      have HK2 := Lib.hid (HK0.out.trans hk2)
      clear hk2 q0 q1 q2
      go_wp2
      go_ret3
      exact ⟨⟨_, _, rfl, WdsAt.nil _, wds_new1 _ 1 (by omega)⟩, HK2.out.alloc _⟩
set_option maxRecDepth 100000 in
set_option maxHeartbeats 4000000 in
theorem reffrom_any (neg : Bool) (va vb : Value) (xs ys : List Nat) (w : World) (ha : WdsAt w va xs) (hb : WdsAt w vb ys) (hla : xs.length ≤ 137438953472) (hlb : ys.length ≤ 137438953472) (hd : nv ys ≠ 0) :
    Calls Tryz.prog 171 #[.bool neg, va, vb] w fun e w' => (∃ v, e = .returned (.tuple #[v, .int .i64 0]) ∧ RatAt w' v (formR neg (nv xs) (nv ys))) ∧ Kept w w' := by
  have HGL : Hid ((nw (Nat.gcd (nv xs) (nv ys))).length ≤ 137438953472) := Lib.hid (Nat.le_trans (nw_mono_len (Nat.le_of_dvd (by omega) (Nat.gcd_dvd_right _ _))) (Nat.le_trans (nw_length_le hb.wd) hlb))
  have HBD := Lib.hid (fun W (hk : Kept w W) => refbits_any vb ys W (hb.kept hk))
  have HB := Lib.hid (fun W (hk : Kept w W) => refbits_any va xs W (ha.kept hk))
  have HG := Lib.hid (fun W (hk : Kept w W) (h0 : nv xs ≠ 0) => refgcd_any va vb xs ys W (ha.kept hk) (hb.kept hk) hla hlb h0)
  have HD1 : Hid (∀ W vg, Kept w W → WdsAt W vg (nw (Nat.gcd (nv xs) (nv ys))) → nv xs ≠ 0 → Calls Tryz.prog 232 #[va, vg] W fun e w' => (∃ v1 v2, e = .returned (.tuple #[v1, v2, .int .i64 0]) ∧ WdsAt w' v1 (nw (nv xs / Nat.gcd (nv xs) (nv ys)))) ∧ Kept W w') := Lib.hid fun W vg hk hg h0 =>
    (refdiv_any va vg xs _ W (ha.kept hk) hg hla (HGL.out) h0 (by rw [nv_nw]; exact fun h => hd (Nat.eq_zero_of_gcd_eq_zero_right h))).mono fun _ _ ⟨⟨v1, v2, h1, h2, _⟩, h3⟩ => ⟨⟨v1, v2, h1, by rw [nv_nw] at h2; exact h2⟩, h3⟩
  have HD2 : Hid (∀ W vg, Kept w W → WdsAt W vg (nw (Nat.gcd (nv xs) (nv ys))) → Calls Tryz.prog 232 #[vb, vg] W fun e w' => (∃ v1 v2, e = .returned (.tuple #[v1, v2, .int .i64 0]) ∧ WdsAt w' v1 (nw (nv ys / Nat.gcd (nv xs) (nv ys)))) ∧ Kept W w') := Lib.hid fun W vg hk hg =>
    (refdiv_any vb vg ys _ W (hb.kept hk) hg hlb (HGL.out) hd (by rw [nv_nw]; exact fun h => hd (Nat.eq_zero_of_gcd_eq_zero_right h))).mono fun _ _ ⟨⟨v1, v2, h1, h2, _⟩, h3⟩ => ⟨⟨v1, v2, h1, by rw [nv_nw] at h2; exact h2⟩, h3⟩
  obtain ⟨a0, c0, rfl⟩ := ha.shape
  obtain ⟨a1, c1, rfl⟩ := hb.shape
  generalize xs.length = n0 at *
  generalize ys.length = n1 at *
  obtain ⟨w1, hw1⟩ : ∃ w1, w1 = w.alloc (.cells #[.bool false, .slice none 0 0, .slice none 0 0] 39) := ⟨_, rfl⟩
  have HR : Hid (RowAt w1 w.heap.size 39 [.bool false, .slice none 0 0, .slice none 0 0]) := Lib.hid (by rw [hw1]; exact RowAt.made w #[.bool false, .slice none 0 0, .slice none 0 0] 39)
  have HK0 : Hid (Kept w w1) := Lib.hid (by rw [hw1]; exact (Kept.refl w).alloc _)
  have HFX : Hid (FixAt w1 w.heap.size [.bool false, .slice none 0 0, .slice none 0 0]) := Lib.hid (by rw [hw1]; exact FixAt.made w #[.bool false, .slice none 0 0, .slice none 0 0] 39)
  have HW1 := Lib.hid hw1
  have HD0 := Lib.hid hd
  clear hw1 ha hb hla hlb hd
  by_cases h0 : nv xs = 0
  · have hF : formR neg (nv xs) (nv ys) = ⟨false, [], []⟩ := by unfold formR; rw [if_pos h0]
    rw [hF]
    have H0 := Lib.hid h0
    clear hF h0
    go_enter Tryz.func171, Tryz.ntmps171
    go_wp2_with fail
    rw [← HW1.out]
    refine (HBD.out _ HK0.out).mono ?_
    rintro e w2 ⟨⟨kd, rfl, hkd⟩, rfl⟩
    have hkd0 : ((kd : Int) == 0) = false := by
      have : kd ≠ 0 := fun h => HD0.out (hkd.iff0.1 h)
      simp; exact this
    clear hkd
    go_wp2_with fail
    refine (HB.out _ HK0.out).mono ?_
    rintro e w2 ⟨⟨k, rfl, hk⟩, rfl⟩
    have hk0 : k = 0 := hk.iff0.2 H0.out
    subst hk0
    clear hk
    have g0 := HR.out.cell (i := 0) (by simp)
    have g1 := HR.out.cell (i := 1) (by simp)
    have g2 := HR.out.cell (i := 2) (by simp)
    have f0 := HR.out.free 0
    have f1 := HR.out.free 1
    have f2 := HR.out.free 2
    go_wp2
    have hF := (((HR.out.store 0 (.bool false)).store 1 (.slice none 0 0)).store 2 (.slice none 0 0))
    have y0 := hF.cell (i := 0) (by simp)
    have y1 := hF.cell (i := 1) (by simp)
    have y2 := hF.cell (i := 2) (by simp)
    simp only [List.set_cons_zero, List.set_cons_succ, List.getElem_cons_succ, List.getElem_cons_zero] at y0 y1 y2
    refine bodyPost_ret (v := .tuple #[.agg #[.bool false, .slice none 0 0, .slice none 0 0], .int .i64 0]) ?_ rfl ⟨⟨_, rfl, RatAt.zero _⟩, ?_⟩
    · simp [results, Tryz.results171, go_sem, y0, y1, y2]
    · exact ((HK0.out.store (Nat.le_refl _) _ _).store (Nat.le_refl _) _ _).store (Nat.le_refl _) _ _
  · have hF : formR neg (nv xs) (nv ys) = ⟨neg, nw (nv xs / Nat.gcd (nv xs) (nv ys)), nw (nv ys / Nat.gcd (nv xs) (nv ys))⟩ := by unfold formR; rw [if_neg h0]
    rw [hF]
    have H0 := Lib.hid h0
    clear hF h0
    generalize nw (nv xs / Nat.gcd (nv xs) (nv ys)) = P at *
    generalize nw (nv ys / Nat.gcd (nv xs) (nv ys)) = Q at *
    generalize nw (Nat.gcd (nv xs) (nv ys)) = G at *
    go_enter Tryz.func171, Tryz.ntmps171
    go_wp2_with fail
    rw [← HW1.out]
    refine (HBD.out _ HK0.out).mono ?_
    rintro e w2 ⟨⟨kd, rfl, hkd⟩, rfl⟩
    have hkd0 : ((kd : Int) == 0) = false := by
      have : kd ≠ 0 := fun h => HD0.out (hkd.iff0.1 h)
      simp; exact this
    clear hkd
    go_wp2_with fail
    refine (HB.out _ HK0.out).mono ?_
    rintro e w2 ⟨⟨k, rfl, hk⟩, rfl⟩
    have hk0 : ((k : Int) == 0) = false := by
      have : k ≠ 0 := fun h => H0.out (hk.iff0.1 h)
      simp; exact this
    clear hk
    go_wp2_with fail
    refine (HG.out _ HK0.out H0.out).mono ?_
    rintro e w3 ⟨⟨v3, rfl, hv3⟩, hk3⟩
    have HV3 := Lib.hid hv3
    have HK3 := Lib.hid (HK0.out.trans hk3)
    have HR3 := Lib.hid (HR.out.kept hk3)
    have HFX3 := Lib.hid (HFX.out.kept hk3)
    clear hv3 hk3 hk0
    go_wp2_with fail
    refine (HD1.out _ _ HK3.out HV3.out H0.out).mono ?_
    rintro e w4 ⟨⟨v4, v5, rfl, hv4⟩, hk4⟩
    have HV4 := Lib.hid hv4
    have HV3' := Lib.hid (HV3.out.kept hk4)
    have HK4 := Lib.hid (HK3.out.trans hk4)
    have HR4 := Lib.hid (HR3.out.kept hk4)
    have HFX4 := Lib.hid (HFX3.out.kept hk4)
    clear hv4 hk4
    go_wp2_with fail
    refine (HD2.out _ _ HK4.out HV3'.out).mono ?_
    rintro e w5 ⟨⟨v6, v7, rfl, hv6⟩, hk5⟩
    have HV6 := Lib.hid hv6
    have HV4' := Lib.hid (HV4.out.kept hk5)
    have HK5 := Lib.hid (HK4.out.trans hk5)
    have HR5 := Lib.hid (HR4.out.kept hk5)
    have HFX5 := Lib.hid (HFX4.out.kept hk5)
    clear hv6 hk5
    obtain ⟨a4, c4, rfl⟩ := HV4'.out.shape
    obtain ⟨a6, c6, rfl⟩ := HV6.out.shape
    have g0 := HR5.out.cell (i := 0) (by simp)
    have g1 := HR5.out.cell (i := 1) (by simp)
    have g2 := HR5.out.cell (i := 2) (by simp)
    have f0 := HR5.out.free 0
    have f1 := HR5.out.free 1
    have f2 := HR5.out.free 2
    go_wp2
    have hF := (((HR5.out.store 0 (.bool neg)).store 1 (.slice a4 P.length c4)).store 2 (.slice a6 Q.length c6))
    have y0 := hF.cell (i := 0) (by simp)
    have y1 := hF.cell (i := 1) (by simp)
    have y2 := hF.cell (i := 2) (by simp)
    simp only [List.set_cons_zero, List.set_cons_succ, List.getElem_cons_succ, List.getElem_cons_zero] at y0 y1 y2
    have hO := (((OnlyAt.refl w.heap.size w5).store 0 (.bool neg)).store 1 (.slice a4 P.length c4)).store 2 (.slice a6 Q.length c6)
    have z1 := HV4'.out.apart HFX5.out (by simp) hO
    have z2 := HV6.out.apart HFX5.out (by simp) hO
    refine bodyPost_ret (v := .tuple #[.agg #[.bool neg, .slice a4 P.length c4, .slice a6 Q.length c6], .int .i64 0]) ?_ rfl ⟨⟨_, rfl, ⟨_, _, rfl, z1, z2⟩⟩, ?_⟩
    · simp [results, Tryz.results171, go_sem, y0, y1, y2]
    · exact ((HK5.out.store (Nat.le_refl _) _ _).store (Nat.le_refl _) _ _).store (Nat.le_refl _) _ _
end Go.Proofs.YtbkchheikkbebaaGreatDoor

/-
  Walks: faultlineref02.size, Make (of a whole number), Of.
-/
namespace Go.Proofs.YtbkchheikkbebaaGreatDoor
open Go.RowKit

/-- As rat_stored, with a block that was made besides. -/
theorem rat_stored2 {w : World} {g : Nat} {T : TypeId} {v1 v2 : Value} {r : Rw} (C : Obj) (hr : RowAt w g T [.bool false, .slice none 0 0, .slice none 0 0]) (hf : FixAt w g [.bool false, .slice none 0 0, .slice none 0 0]) (h1 : WdsAt w v1 r.num) (h2 : WdsAt w v2 r.den) :
    ((((w.setCell ⟨g, 0, none⟩ (.bool r.neg)).setCell ⟨g, 1, none⟩ v1).setCell ⟨g, 2, none⟩ v2).alloc C).cell? ⟨g, 0, none⟩ = some (.bool r.neg) ∧
    ((((w.setCell ⟨g, 0, none⟩ (.bool r.neg)).setCell ⟨g, 1, none⟩ v1).setCell ⟨g, 2, none⟩ v2).alloc C).cell? ⟨g, 1, none⟩ = some v1 ∧
    ((((w.setCell ⟨g, 0, none⟩ (.bool r.neg)).setCell ⟨g, 1, none⟩ v1).setCell ⟨g, 2, none⟩ v2).alloc C).cell? ⟨g, 2, none⟩ = some v2 ∧
    RatAt ((((w.setCell ⟨g, 0, none⟩ (.bool r.neg)).setCell ⟨g, 1, none⟩ v1).setCell ⟨g, 2, none⟩ v2).alloc C) (.agg #[.bool r.neg, v1, v2]) r := by
  obtain ⟨y0, y1, y2, hra⟩ := rat_stored hr hf h1 h2
  have hk := (Kept.refl (((w.setCell ⟨g, 0, none⟩ (.bool r.neg)).setCell ⟨g, 1, none⟩ v1).setCell ⟨g, 2, none⟩ v2)).alloc C
  exact ⟨hk.cell y0, hk.cell y1, hk.cell y2, hra.kept hk⟩
set_option maxRecDepth 100000 in
set_option maxHeartbeats 2000000 in
theorem refsz_any (n : Nat) (w : World) (hn : n < 9223372036854775808) : Calls Tryz.prog 234 #[.int .i64 n] w fun e w' => (∃ v' xs, e = .returned v' ∧ WdsAt w' v' xs ∧ nv xs = n ∧ xs.length = 2) ∧ Kept w w' := by
  obtain ⟨x, hx⟩ : ∃ x, x = n % 4294967296 := ⟨_, rfl⟩
  obtain ⟨y, hy⟩ : ∃ y, y = n / 4294967296 := ⟨_, rfl⟩
  have hx9 : x < 4294967296 := by omega
  have hy9 : y < 4294967296 := by omega
  have HV : Hid (nv [x, y] = n) := Lib.hid (by simp [nv]; omega)
  have e0 : IntKind.u64.wrap (n : Int) = (n : Int) := by rw [IntKind.wrap_u64]; omega
  have e1 : IntKind.u32.wrap (n : Int) = (x : Int) := by rw [IntKind.wrap_u32]; omega
  have e2 : (n : Int) / 4294967296 = (y : Int) := by omega
  have e3 : IntKind.u32.wrap (y : Int) = (y : Int) := by rw [IntKind.wrap_u32]; omega
  have hp : ¬ (n : Int) < 0 := by omega
  clear hx hy
  go_enter Tryz.func234, Tryz.ntmps234
  go_wp2
  go_ret
  exact ⟨⟨_, rfl, [x, y], wds_new2 w x y hx9 hy9, HV.out, rfl⟩, (Kept.refl _).alloc _⟩
set_option maxRecDepth 100000 in
set_option maxHeartbeats 4000000 in
theorem refmake_any (n : Nat) (w : World) (hn : n < 9223372036854775808) : Calls Tryz.prog 184 #[.int .i64 n, .int .i64 1] w fun e w' => (∃ v', e = .returned (.tuple #[v', .int .i64 0]) ∧ RatAt w' v' (canR ((n : Int) : Rat))) ∧ Kept w w' := by
  have HS1 := Lib.hid (fun W => refsz_any n W hn)
  have HS2 : Hid (∀ W, Calls Tryz.prog 234 #[.int .i64 1] W fun e w' => (∃ v' xs, e = .returned v' ∧ WdsAt w' v' xs ∧ nv xs = 1 ∧ xs.length = 2) ∧ Kept W w') := Lib.hid fun W => refsz_any 1 W (by omega)
  obtain ⟨R, hR⟩ : ∃ R, R = canR ((n : Int) : Rat) := ⟨_, rfl⟩
  have HFO : Hid (∀ W u1 u2 xs ys, WdsAt W u1 xs → WdsAt W u2 ys → nv xs = n → nv ys = 1 → xs.length = 2 → ys.length = 2 → Calls Tryz.prog 171 #[.bool false, u1, u2] W fun e w' => (∃ v, e = .returned (.tuple #[v, .int .i64 0]) ∧ RatAt w' v R) ∧ Kept W w') := Lib.hid fun W u1 u2 xs ys k1 k2 n1 n2 l1 l2 => by
    have h := reffrom_any false u1 u2 xs ys W k1 k2 (by omega) (by omega) (by omega)
    rw [n1, n2, form_can _ _ _ (by omega), show sg false n = (n : Int) from rfl, Rat.mkRat_one, ← hR] at h
    exact h
  rw [← hR]
  obtain ⟨w2, hw2⟩ : ∃ w2, w2 = w.alloc (.cells #[.bool false, .slice none 0 0, .slice none 0 0] 39) := ⟨_, rfl⟩
  have HR : Hid (RowAt w2 w.heap.size 39 [.bool false, .slice none 0 0, .slice none 0 0]) := Lib.hid (by rw [hw2]; exact RowAt.made w #[.bool false, .slice none 0 0, .slice none 0 0] 39)
  have HFX : Hid (FixAt w2 w.heap.size [.bool false, .slice none 0 0, .slice none 0 0]) := Lib.hid (by rw [hw2]; exact FixAt.made w #[.bool false, .slice none 0 0, .slice none 0 0] 39)
  have HK0 : Hid (Kept w w2) := Lib.hid (by rw [hw2]; exact (Kept.refl w).alloc _)
  have HW2 := Lib.hid hw2
  have hn0 : ¬ (n : Int) < 0 := by omega
  clear hw2 hR
  go_enter Tryz.func184, Tryz.ntmps184
  go_wp2_with fail
  rw [← HW2.out]
  refine (HS1.out _).mono ?_
  rintro e w3 ⟨⟨v3, xs, rfl, hv3, hn3, hl3⟩, hk3⟩
  have HV3 := Lib.hid hv3
  have HN3 := Lib.hid (And.intro hn3 hl3)
  have HR3 := Lib.hid (HR.out.kept hk3)
  have HF3 := Lib.hid (HFX.out.kept hk3)
  have HK3 := Lib.hid (HK0.out.trans hk3)
  clear hv3 hk3 hn3 hl3
  go_wp2_with fail
  refine (HS2.out _).mono ?_
  rintro e w4 ⟨⟨v4, ys, rfl, hv4, hn4, hl4⟩, hk4⟩
  have HV4 := Lib.hid hv4
  have HN4 := Lib.hid (And.intro hn4 hl4)
  have HV3' := Lib.hid (HV3.out.kept hk4)
  have HR4 := Lib.hid (HR3.out.kept hk4)
  have HF4 := Lib.hid (HF3.out.kept hk4)
  have HK4 := Lib.hid (HK3.out.trans hk4)
  clear hv4 hk4 hn4 hl4
  go_wp2_with fail
  refine (HFO.out _ _ _ _ _ HV3'.out HV4.out HN3.out.1 HN4.out.1 HN3.out.2 HN4.out.2).mono ?_
  rintro e w10 ⟨⟨v10, rfl, hv10⟩, hk10⟩
  have hr10 := HR4.out.kept hk10
  have HF10 := Lib.hid (HF4.out.kept hk10)
  have HK10 := Lib.hid (HK4.out.trans hk10)
  obtain ⟨u7, u8, rfl, k7, k8⟩ := hv10
  obtain ⟨a7, c7, rfl⟩ := k7.shape
  obtain ⟨a8, c8, rfl⟩ := k8.shape
  obtain ⟨y0, y1, y2, hra⟩ := rat_stored hr10 HF10.out k7 k8
  have g0 := hr10.cell (i := 0) (by simp)
  have g1 := hr10.cell (i := 1) (by simp)
  have g2 := hr10.cell (i := 2) (by simp)
  have f0 := hr10.free 0
  have f1 := hr10.free 1
  have f2 := hr10.free 2
  have HRA := Lib.hid hra
  have Y0 := Lib.hid y0
  have Y1 := Lib.hid y1
  have Y2 := Lib.hid y2
  clear hra y0 y1 y2 k7 k8 hr10 hk10
  generalize R.num.length = n7 at *
  generalize R.den.length = n8 at *
  go_wp2
  refine bodyPost_ret (v := .tuple #[.agg #[.bool R.neg, .slice a7 n7 c7, .slice a8 n8 c8], .int .i64 0]) ?_ rfl ⟨⟨_, rfl, HRA.out⟩, ?_⟩
  · simp [results, Tryz.results184, go_sem, Y0.out, Y1.out, Y2.out]
  · exact ((HK10.out.store (by omega) _ _).store (by omega) _ _).store (by omega) _ _
set_option maxRecDepth 100000 in
set_option maxHeartbeats 4000000 in
theorem refof_any (n : Nat) (w : World) (hn : n < 9223372036854775808) : Calls Tryz.prog 112 #[.int .i64 n] w fun e w' => (∃ v', e = .returned v' ∧ RatAt w' v' (canR ((n : Int) : Rat))) ∧ Kept w w' := by
  have HMA := Lib.hid (fun W => refmake_any n W hn)
  generalize canR ((n : Int) : Rat) = R at *
  obtain ⟨w2, hw2⟩ : ∃ w2, w2 = w.alloc (.cells #[.bool false, .slice none 0 0, .slice none 0 0] 39) := ⟨_, rfl⟩
  have HR : Hid (RowAt w2 w.heap.size 39 [.bool false, .slice none 0 0, .slice none 0 0]) := Lib.hid (by rw [hw2]; exact RowAt.made w #[.bool false, .slice none 0 0, .slice none 0 0] 39)
  have HFX : Hid (FixAt w2 w.heap.size [.bool false, .slice none 0 0, .slice none 0 0]) := Lib.hid (by rw [hw2]; exact FixAt.made w #[.bool false, .slice none 0 0, .slice none 0 0] 39)
  have HK0 : Hid (Kept w w2) := Lib.hid (by rw [hw2]; exact (Kept.refl w).alloc _)
  have HW2 := Lib.hid hw2
  clear hw2
  go_enter Tryz.func112, Tryz.ntmps112
  go_wp2_with fail
  rw [← HW2.out]
  refine (HMA.out _).mono ?_
  rintro e w10 ⟨⟨v10, rfl, hv10⟩, hk10⟩
  have hr10 := HR.out.kept hk10
  have HF10 := Lib.hid (HFX.out.kept hk10)
  have HK10 := Lib.hid (HK0.out.trans hk10)
  obtain ⟨u7, u8, rfl, k7, k8⟩ := hv10
  obtain ⟨a7, c7, rfl⟩ := k7.shape
  obtain ⟨a8, c8, rfl⟩ := k8.shape
  obtain ⟨y0, y1, y2, hra⟩ := rat_stored2 (.cells #[.bool R.neg, .slice a7 R.num.length c7, .slice a8 R.den.length c8] 39) hr10 HF10.out k7 k8
  have hlt := hr10.lt
  have HRA := Lib.hid hra
  have Y0 := Lib.hid y0
  have Y1 := Lib.hid y1
  have Y2 := Lib.hid y2
  have g0 := hr10.cell (i := 0) (by simp)
  have g1 := hr10.cell (i := 1) (by simp)
  have g2 := hr10.cell (i := 2) (by simp)
  have f0 := hr10.free 0
  have f1 := hr10.free 1
  have f2 := hr10.free 2
  clear hra y0 y1 y2 k7 k8 hr10 hk10
  generalize R.num.length = n7 at *
  generalize R.den.length = n8 at *
  go_wp2
  refine bodyPost_ret (v := .agg #[.bool R.neg, .slice a7 n7 c7, .slice a8 n8 c8]) ?_ rfl ⟨⟨_, rfl, HRA.out⟩, ?_⟩
  · simp [results, Tryz.results112, go_sem, Y0.out, Y1.out, Y2.out]
  · exact (((HK10.out.store (by omega) _ _).store (by omega) _ _).store (by omega) _ _).alloc _
end Go.Proofs.YtbkchheikkbebaaGreatDoor

/-
  Walks: faultlineref02.Neg, Sign, Mul.
-/
namespace Go.Proofs.YtbkchheikkbebaaGreatDoor
open Go.RowKit

set_option maxRecDepth 100000 in
set_option maxHeartbeats 4000000 in
theorem refneg_any (v : Value) (r : Rw) (w : World) (hv : RatAt w v r) (hs : r.Short 137438953472) : Calls Tryz.prog 107 #[v] w fun e w' => (∃ v', e = .returned v' ∧ RatAt w' v' (canR (- ratOf r))) ∧ Kept w w' := by
  have HPA := Lib.hid (fun W (hk : Kept w W) => refparts_any v r W (hv.kept hk) hs)
  have hok := partsR_ok hv.ok
  have hsh := parts_short hs (by omega)
  obtain ⟨R, hR⟩ : ∃ R, R = canR (- ratOf r) := ⟨_, rfl⟩
  have HFO : Hid (∀ W u1 u2, WdsAt W u1 (partsR r).2.1 → WdsAt W u2 (partsR r).2.2 → Calls Tryz.prog 171 #[.bool (!(partsR r).1), u1, u2] W fun e w' => (∃ v, e = .returned (.tuple #[v, .int .i64 0]) ∧ RatAt w' v R) ∧ Kept W w') := Lib.hid fun W u1 u2 k1 k2 => by
    have h := reffrom_any (!(partsR r).1) u1 u2 _ _ W k1 k2 hsh.1 hsh.2 hok.2.2.1
    rw [form_can _ _ _ hok.2.2.1, ratOf_neg, ← hR] at h
    exact h
  rw [← hR]
  obtain ⟨u1, u2, rfl, h1, h2⟩ := hv
  obtain ⟨a1, c1, rfl⟩ := h1.shape
  obtain ⟨a2, c2, rfl⟩ := h2.shape
  obtain ⟨w2, hw2⟩ : ∃ w2, w2 = (w.alloc (.cells #[.bool r.neg, .slice a1 r.num.length c1, .slice a2 r.den.length c2] 39)).alloc (.cells #[.bool false, .slice none 0 0, .slice none 0 0] 39) := ⟨_, rfl⟩
  have HM := Lib.hid (res_made w (.cells #[.bool r.neg, .slice a1 r.num.length c1, .slice a2 r.den.length c2] 39))
  rw [← hw2] at HM
  have HW2 := Lib.hid hw2
  generalize (partsR r).1 = s at *
  generalize (partsR r).2.1 = N at *
  generalize (partsR r).2.2 = D at *
  generalize r.num.length = n1 at *
  generalize r.den.length = n2 at *
  generalize r.neg = neg at *
  clear hok hsh hR h1 h2 hs hw2
  go_enter Tryz.func107, Tryz.ntmps107
  go_wp2_with fail
  rw [← HW2.out]
  refine (HPA.out _ HM.out.2.2).mono ?_
  rintro e w3 ⟨⟨u3, u4, rfl, hu3, hu4⟩, hk3⟩
  have H3 := Lib.hid hu3
  have H4 := Lib.hid hu4
  have HR3 := Lib.hid (HM.out.1.kept hk3)
  have HF3 := Lib.hid (HM.out.2.1.kept hk3)
  have HK3 := Lib.hid (HM.out.2.2.trans hk3)
  clear hu3 hu4 hk3
  go_wp2_with fail
  refine (HFO.out _ _ _ H3.out H4.out).mono ?_
  rintro e w4 ⟨⟨v4, rfl, hv4⟩, hk4⟩
  have HV4 := Lib.hid hv4
  have hr4 := HR3.out.kept hk4
  have HR4 := Lib.hid hr4
  have HF4 := Lib.hid (HF3.out.kept hk4)
  have HK4 := Lib.hid (HK3.out.trans hk4)
  obtain ⟨u5, u6, rfl, k5, k6⟩ := hv4
  obtain ⟨a5, c5, rfl⟩ := k5.shape
  obtain ⟨a6, c6, rfl⟩ := k6.shape
  obtain ⟨y0, y1, y2, hra⟩ := rat_stored2 (.cells #[.bool R.neg, .slice a5 R.num.length c5, .slice a6 R.den.length c6] 39) hr4 HF4.out k5 k6
  have hlt := hr4.lt
  have g0 := hr4.cell (i := 0) (by simp)
  have g1 := hr4.cell (i := 1) (by simp)
  have g2 := hr4.cell (i := 2) (by simp)
  have f0 := hr4.free 0
  have f1 := hr4.free 1
  have f2 := hr4.free 2
  have HRA := Lib.hid hra
  have Y0 := Lib.hid y0
  have Y1 := Lib.hid y1
  have Y2 := Lib.hid y2
  clear hra y0 y1 y2 k5 k6 hr4 hk4
  generalize R.num.length = n5 at *
  generalize R.den.length = n6 at *
  go_wp2
  refine bodyPost_ret (v := .agg #[.bool R.neg, .slice a5 n5 c5, .slice a6 n6 c6]) ?_ rfl ⟨⟨_, rfl, HRA.out⟩, ?_⟩
  · simp [results, Tryz.results107, go_sem, Y0.out, Y1.out, Y2.out]
  · exact (((HK4.out.store (by omega) _ _).store (by omega) _ _).store (by omega) _ _).alloc _
set_option maxRecDepth 100000 in
set_option maxHeartbeats 4000000 in
theorem refsign_any (v : Value) (r : Rw) (w : World) (hv : RatAt w v r) (hs : r.Short 137438953472) : Calls Tryz.prog 199 #[v] w fun e w' => e = .returned (.int .i64 (sgnR (ratOf r))) ∧ Kept w w' := by
  have HPA := Lib.hid (fun W (hk : Kept w W) => refparts_any v r W (hv.kept hk) hs)
  obtain ⟨k1, k2⟩ := sign_ratOf hv.ok
  obtain ⟨u1, u2, rfl, h1, h2⟩ := hv
  obtain ⟨a1, c1, rfl⟩ := h1.shape
  obtain ⟨a2, c2, rfl⟩ := h2.shape
  have HK0 : Hid (Kept w (w.alloc (.cells #[.bool r.neg, .slice a1 r.num.length c1, .slice a2 r.den.length c2] 39))) := Lib.hid ((Kept.refl w).alloc _)
  obtain ⟨ln, hln⟩ : ∃ ln, ln = (partsR r).2.1.length := ⟨_, rfl⟩
  have HLN := Lib.hid hln
  rw [← hln] at k1 k2
  obtain ⟨S, hS⟩ : ∃ S, S = sgnR (ratOf r) := ⟨_, rfl⟩
  rw [← hS]
  have hSS : S = if ln = 0 then 0 else if (partsR r).1 = true then -1 else 1 := by
    rw [hS]
    unfold sgnR
    by_cases h : ln = 0
    · rw [if_pos h, if_pos (k1.1 h)]
    · rw [if_neg h, if_neg (fun e => h (k1.2 e))]
      by_cases h3 : (partsR r).1 = true
      · rw [if_pos h3, if_pos ((k2 h).1 h3)]
      · rw [if_neg h3, if_neg (fun e => h3 ((k2 h).2 e))]
  generalize (partsR r).1 = s at *
  generalize (partsR r).2.1 = N at *
  generalize (partsR r).2.2 = D at *
  generalize r.num.length = n1 at *
  generalize r.den.length = n2 at *
  generalize r.neg = neg at *
  clear h1 h2 hs hS k1 k2 hln
  by_cases h0 : ln = 0
  · have hE : S = 0 := by rw [hSS, if_pos h0]
    subst h0 hE
    clear hSS
    go_enter Tryz.func199, Tryz.ntmps199
    go_wp2_with fail
    refine (HPA.out _ HK0.out).mono ?_
    rintro e w3 ⟨⟨u3, u4, rfl, hu3, hu4⟩, hk3⟩
    obtain ⟨a3, c3, rfl⟩ := hu3.shape
    rw [← HLN.out]
    have HK3 := Lib.hid (HK0.out.trans hk3)
    clear hu3 hu4 hk3
    go_wp2
    go_ret
    exact ⟨rfl, HK3.out⟩
  · have hb : ((ln : Int) == 0) = false := by simp; exact h0
    cases s with
    | true =>
      have hE : S = -1 := by rw [hSS, if_neg h0, if_pos rfl]
      subst hE
      clear hSS h0
      go_enter Tryz.func199, Tryz.ntmps199
      go_wp2_with fail
      refine (HPA.out _ HK0.out).mono ?_
      rintro e w3 ⟨⟨u3, u4, rfl, hu3, hu4⟩, hk3⟩
      obtain ⟨a3, c3, rfl⟩ := hu3.shape
      rw [← HLN.out]
      have HK3 := Lib.hid (HK0.out.trans hk3)
      clear hu3 hu4 hk3
      go_wp2
      go_ret
      exact ⟨rfl, HK3.out⟩
    | false =>
      have hE : S = 1 := by rw [hSS, if_neg h0, if_neg (by simp)]
      subst hE
      clear hSS h0
      go_enter Tryz.func199, Tryz.ntmps199
      go_wp2_with fail
      refine (HPA.out _ HK0.out).mono ?_
      rintro e w3 ⟨⟨u3, u4, rfl, hu3, hu4⟩, hk3⟩
      obtain ⟨a3, c3, rfl⟩ := hu3.shape
      rw [← HLN.out]
      have HK3 := Lib.hid (HK0.out.trans hk3)
      clear hu3 hu4 hk3
      go_wp2
      go_ret
      exact ⟨rfl, HK3.out⟩
set_option maxRecDepth 100000 in
set_option maxHeartbeats 4000000 in
theorem refmul02_any (va vb : Value) (r s : Rw) (w : World) (ha : RatAt w va r) (hb : RatAt w vb s) (hr : r.Short 68719476736) (hs : s.Short 68719476736) : Calls Tryz.prog 176 #[va, vb] w fun e w' => (∃ v', e = .returned v' ∧ RatAt w' v' (canR (ratOf r * ratOf s))) ∧ Kept w w' := by
  have HP1 := Lib.hid (fun W (hk : Kept w W) => refparts_any va r W (ha.kept hk) ⟨Nat.le_trans hr.1 (by omega), Nat.le_trans hr.2 (by omega)⟩)
  have HP2 := Lib.hid (fun W (hk : Kept w W) => refparts_any vb s W (hb.kept hk) ⟨Nat.le_trans hs.1 (by omega), Nat.le_trans hs.2 (by omega)⟩)
  have hok1 := partsR_ok ha.ok
  have hok2 := partsR_ok hb.ok
  have hsh1 := parts_short hr (by omega)
  have hsh2 := parts_short hs (by omega)
  obtain ⟨R, hR⟩ : ∃ R, R = canR (ratOf r * ratOf s) := ⟨_, rfl⟩
  obtain ⟨x, hx⟩ : ∃ x, x = ((partsR r).1 != (partsR s).1) := ⟨_, rfl⟩
  have HFO : Hid (∀ W u1 u2, WdsAt W u1 (nw (nv (partsR r).2.1 * nv (partsR s).2.1)) → WdsAt W u2 (nw (nv (partsR r).2.2 * nv (partsR s).2.2)) → Calls Tryz.prog 171 #[.bool x, u1, u2] W fun e w' => (∃ v, e = .returned (.tuple #[v, .int .i64 0]) ∧ RatAt w' v R) ∧ Kept W w') := Lib.hid fun W u1 u2 k1 k2 => by
    have hd : nv (partsR r).2.2 * nv (partsR s).2.2 ≠ 0 := Nat.mul_ne_zero hok1.2.2.1 hok2.2.2.1
    have h := reffrom_any x u1 u2 _ _ W k1 k2 (Nat.le_trans (nw_mul_len hok1.1 hok2.1) (by omega)) (Nat.le_trans (nw_mul_len hok1.2.1 hok2.2.1) (by omega)) (by rw [nv_nw]; exact hd)
    rw [nv_nw, nv_nw, form_can _ _ _ hd, hx, ratOf_mul, ← hR] at h
    rw [hx]
    exact h
  have HM1 : Hid (∀ W u1 u2, WdsAt W u1 (partsR r).2.1 → WdsAt W u2 (partsR s).2.1 → Calls Tryz.prog 170 #[u1, u2] W fun e w' => (∃ v', e = .returned v' ∧ WdsAt w' v' (nw (nv (partsR r).2.1 * nv (partsR s).2.1))) ∧ Kept W w') := Lib.hid fun W u1 u2 k1 k2 => refmul_any u1 u2 _ _ W k1 k2 (by omega) (by omega)
  have HM2 : Hid (∀ W u1 u2, WdsAt W u1 (partsR r).2.2 → WdsAt W u2 (partsR s).2.2 → Calls Tryz.prog 170 #[u1, u2] W fun e w' => (∃ v', e = .returned v' ∧ WdsAt w' v' (nw (nv (partsR r).2.2 * nv (partsR s).2.2))) ∧ Kept W w') := Lib.hid fun W u1 u2 k1 k2 => refmul_any u1 u2 _ _ W k1 k2 (by omega) (by omega)
  rw [← hR]
  obtain ⟨u1, u2, rfl, h1, h2⟩ := ha
  obtain ⟨u3, u4, rfl, h3, h4⟩ := hb
  obtain ⟨a1, c1, rfl⟩ := h1.shape
  obtain ⟨a2, c2, rfl⟩ := h2.shape
  obtain ⟨a3, c3, rfl⟩ := h3.shape
  obtain ⟨a4, c4, rfl⟩ := h4.shape
  obtain ⟨w2, hw2⟩ : ∃ w2, w2 = ((w.alloc (.cells #[.bool r.neg, .slice a1 r.num.length c1, .slice a2 r.den.length c2] 39)).alloc (.cells #[.bool s.neg, .slice a3 s.num.length c3, .slice a4 s.den.length c4] 39)).alloc (.cells #[.bool false, .slice none 0 0, .slice none 0 0] 39) := ⟨_, rfl⟩
  have HM := Lib.hid (res_made2 w (.cells #[.bool r.neg, .slice a1 r.num.length c1, .slice a2 r.den.length c2] 39) (.cells #[.bool s.neg, .slice a3 s.num.length c3, .slice a4 s.den.length c4] 39))
  rw [← hw2] at HM
  have hb2 := RowAt.made (w.alloc (.cells #[.bool r.neg, .slice a1 r.num.length c1, .slice a2 r.den.length c2] 39)) #[.bool s.neg, .slice a3 s.num.length c3, .slice a4 s.den.length c4] 39
  simp only [World.size_alloc] at hb2
  have HB2 : Hid (RowAt w2 (w.heap.size + 1) 39 [.bool s.neg, .slice a3 s.num.length c3, .slice a4 s.den.length c4]) := Lib.hid (by rw [hw2]; exact hb2.kept ((Kept.refl _).alloc _))
  have HW2 := Lib.hid hw2
  generalize nw (nv (partsR r).2.1 * nv (partsR s).2.1) = NM at *
  generalize nw (nv (partsR r).2.2 * nv (partsR s).2.2) = DE at *
  generalize (partsR r).1 = s1 at *
  generalize (partsR s).1 = s2 at *
  generalize (partsR r).2.1 = N at *
  generalize (partsR r).2.2 = D at *
  generalize (partsR s).2.1 = M at *
  generalize (partsR s).2.2 = E at *
  generalize r.num.length = n1 at *
  generalize r.den.length = n2 at *
  generalize s.num.length = n3 at *
  generalize s.den.length = n4 at *
  generalize r.neg = neg1 at *
  generalize s.neg = neg2 at *
  have hx1 : (s1 != s2) = x := hx.symm
  have hx2 : (s1 == s2) = !x := by rw [hx]; simp [bne]
  clear hok1 hok2 hsh1 hsh2 hR h1 h2 h3 h4 hr hs hw2 hb2 hx
  go_enter Tryz.func176, Tryz.ntmps176
  go_wp2_with fail
  rw [← HW2.out]
  refine (HP1.out _ HM.out.2.2).mono ?_
  rintro e w3 ⟨⟨u3, u4, rfl, hu3, hu4⟩, hk3⟩
  have HN := Lib.hid hu3
  have HD := Lib.hid hu4
  have HR3 := Lib.hid (HM.out.1.kept hk3)
  have HF3 := Lib.hid (HM.out.2.1.kept hk3)
  have hb3 := HB2.out.kept hk3
  have g0 := hb3.cell (i := 0) (by simp)
  have g1 := hb3.cell (i := 1) (by simp)
  have g2 := hb3.cell (i := 2) (by simp)
  simp only [List.getElem_cons_succ, List.getElem_cons_zero] at g0 g1 g2
  have HK3 := Lib.hid (HM.out.2.2.trans hk3)
  clear hu3 hu4 hk3 hb3
  go_wp2_with fail
  refine (HP2.out _ HK3.out).mono ?_
  rintro e w4 ⟨⟨u5, u6, rfl, hu5, hu6⟩, hk4⟩
  have HN' := Lib.hid (HN.out.kept hk4)
  have HD' := Lib.hid (HD.out.kept hk4)
  have HMM := Lib.hid hu5
  have HEE := Lib.hid hu6
  have HR4 := Lib.hid (HR3.out.kept hk4)
  have HF4 := Lib.hid (HF3.out.kept hk4)
  have HK4 := Lib.hid (HK3.out.trans hk4)
  clear hu5 hu6 hk4 g0 g1 g2
  go_wp2_with fail
  refine (HM1.out _ _ _ HN'.out HMM.out).mono ?_
  rintro e w5 ⟨⟨v5, rfl, hv5⟩, hk5⟩
  have HV5 := Lib.hid hv5
  have HR5 := Lib.hid (HR4.out.kept hk5)
  have HF5 := Lib.hid (HF4.out.kept hk5)
  have HD5 := Lib.hid (HD'.out.kept hk5)
  have HE5 := Lib.hid (HEE.out.kept hk5)
  have HK5 := Lib.hid (HK4.out.trans hk5)
  clear hv5 hk5
  go_wp2_with fail
  refine (HM2.out _ _ _ HD5.out HE5.out).mono ?_
  rintro e w6 ⟨⟨v6, rfl, hv6⟩, hk6⟩
  have HV6 := Lib.hid hv6
  have HV5' := Lib.hid (HV5.out.kept hk6)
  have HR6 := Lib.hid (HR5.out.kept hk6)
  have HF6 := Lib.hid (HF5.out.kept hk6)
  have HK6 := Lib.hid (HK5.out.trans hk6)
  clear hv6 hk6
  go_wp2_with fail
  first
    | (refine (HFO.out _ _ _ HV5'.out HV6.out).mono ?_)
    | (rw [hx1]; refine (HFO.out _ _ _ HV5'.out HV6.out).mono ?_)
  rintro e w7 ⟨⟨v7, rfl, hv7⟩, hk7⟩
  have HV7 := Lib.hid hv7
  have hr7 := HR6.out.kept hk7
  have HF7 := Lib.hid (HF6.out.kept hk7)
  have HK7 := Lib.hid (HK6.out.trans hk7)
  obtain ⟨u7, u8, rfl, k7, k8⟩ := hv7
  obtain ⟨a7, c7, rfl⟩ := k7.shape
  obtain ⟨a8, c8, rfl⟩ := k8.shape
  obtain ⟨y0, y1, y2, hra⟩ := rat_stored2 (.cells #[.bool R.neg, .slice a7 R.num.length c7, .slice a8 R.den.length c8] 39) hr7 HF7.out k7 k8
  have hlt := hr7.lt
  have g0 := hr7.cell (i := 0) (by simp)
  have g1 := hr7.cell (i := 1) (by simp)
  have g2 := hr7.cell (i := 2) (by simp)
  have f0 := hr7.free 0
  have f1 := hr7.free 1
  have f2 := hr7.free 2
  have HRA := Lib.hid hra
  have Y0 := Lib.hid y0
  have Y1 := Lib.hid y1
  have Y2 := Lib.hid y2
  clear hra y0 y1 y2 k7 k8 hr7 hk7
  generalize R.num.length = n7 at *
  generalize R.den.length = n8 at *
  go_wp2
  refine bodyPost_ret (v := .agg #[.bool R.neg, .slice a7 n7 c7, .slice a8 n8 c8]) ?_ rfl ⟨⟨_, rfl, HRA.out⟩, ?_⟩
  · simp [results, Tryz.results176, go_sem, Y0.out, Y1.out, Y2.out]
  · exact (((HK7.out.store (by omega) _ _).store (by omega) _ _).store (by omega) _ _).alloc _
end Go.Proofs.YtbkchheikkbebaaGreatDoor

/-
  Walks: faultlineref02.Add. Printed by gen_A41.py.
-/
namespace Go.Proofs.YtbkchheikkbebaaGreatDoor
open Go.RowKit

set_option maxRecDepth 100000 in
set_option maxHeartbeats 4000000 in
theorem refadd02_same (va vb : Value) (r s : Rw) (w : World) (ha : RatAt w va r) (hb : RatAt w vb s) (hr : r.Short 34359738368) (hs : s.Short 34359738368) (hss : (partsR r).1 = (partsR s).1) : Calls Tryz.prog 91 #[va, vb] w fun e w' => (∃ v', e = .returned v' ∧ RatAt w' v' (canR (ratOf r + ratOf s))) ∧ Kept w w' := by
  have HP1 := Lib.hid (fun W (hk : Kept w W) => refparts_any va r W (ha.kept hk) ⟨Nat.le_trans hr.1 (by omega), Nat.le_trans hr.2 (by omega)⟩)
  have HP2 := Lib.hid (fun W (hk : Kept w W) => refparts_any vb s W (hb.kept hk) ⟨Nat.le_trans hs.1 (by omega), Nat.le_trans hs.2 (by omega)⟩)
  have hok1 := partsR_ok ha.ok
  have hok2 := partsR_ok hb.ok
  have hsh1 := parts_short hr (by omega)
  have hsh2 := parts_short hs (by omega)
  obtain ⟨R, hR⟩ : ∃ R, R = canR (ratOf r + ratOf s) := ⟨_, rfl⟩
  obtain ⟨p, hp⟩ : ∃ p, p = nv (partsR r).2.1 * nv (partsR s).2.2 := ⟨_, rfl⟩
  obtain ⟨q, hq⟩ : ∃ q, q = nv (partsR s).2.1 * nv (partsR r).2.2 := ⟨_, rfl⟩
  obtain ⟨d, hd⟩ : ∃ d, d = nv (partsR r).2.2 * nv (partsR s).2.2 := ⟨_, rfl⟩
  have hlp : (nw p).length ≤ 68719476736 := by rw [hp]; exact Nat.le_trans (nw_mul_len hok1.1 hok2.2.1) (by omega)
  have hlq : (nw q).length ≤ 68719476736 := by rw [hq]; exact Nat.le_trans (nw_mul_len hok2.1 hok1.2.1) (by omega)
  have hld : (nw d).length ≤ 68719476736 := by rw [hd]; exact Nat.le_trans (nw_mul_len hok1.2.1 hok2.2.1) (by omega)
  have hd0 : d ≠ 0 := by rw [hd]; exact Nat.mul_ne_zero hok1.2.2.1 hok2.2.2.1
  have HAD : Hid (∀ W u1 u2, WdsAt W u1 (nw p) → WdsAt W u2 (nw q) → Calls Tryz.prog 172 #[u1, u2] W fun e w' => (∃ v', e = .returned v' ∧ WdsAt w' v' (nw (p + q))) ∧ Kept W w') := Lib.hid fun W u1 u2 k1 k2 => by
    have h := refadd_any u1 u2 _ _ W k1 k2 (by omega) (by omega)
    rw [nv_nw, nv_nw] at h
    exact h
  have HFO : Hid (∀ W u1 u2, WdsAt W u1 (nw (p + q)) → WdsAt W u2 (nw d) → Calls Tryz.prog 171 #[.bool (partsR r).1, u1, u2] W fun e w' => (∃ v, e = .returned (.tuple #[v, .int .i64 0]) ∧ RatAt w' v R) ∧ Kept W w') := Lib.hid fun W u1 u2 k1 k2 => by
    have h := reffrom_any (partsR r).1 u1 u2 _ _ W k1 k2 (Nat.le_trans (nw_add_len hlp hlq) (by omega)) (Nat.le_trans hld (by omega)) (by rw [nv_nw]; exact hd0)
    rw [nv_nw, nv_nw, form_can _ _ _ hd0, hp, hq, hd, ratOf_add ha.ok hb.ok hss, ← hR] at h
    exact h
  have HM1 : Hid (∀ W u1 u2, WdsAt W u1 (partsR r).2.1 → WdsAt W u2 (partsR s).2.2 → Calls Tryz.prog 170 #[u1, u2] W fun e w' => (∃ v', e = .returned v' ∧ WdsAt w' v' (nw p)) ∧ Kept W w') := Lib.hid fun W u1 u2 k1 k2 => by rw [hp]; exact refmul_any u1 u2 _ _ W k1 k2 (by omega) (by omega)
  have HM2 : Hid (∀ W u1 u2, WdsAt W u1 (partsR s).2.1 → WdsAt W u2 (partsR r).2.2 → Calls Tryz.prog 170 #[u1, u2] W fun e w' => (∃ v', e = .returned v' ∧ WdsAt w' v' (nw q)) ∧ Kept W w') := Lib.hid fun W u1 u2 k1 k2 => by rw [hq]; exact refmul_any u1 u2 _ _ W k1 k2 (by omega) (by omega)
  have HM3 : Hid (∀ W u1 u2, WdsAt W u1 (partsR r).2.2 → WdsAt W u2 (partsR s).2.2 → Calls Tryz.prog 170 #[u1, u2] W fun e w' => (∃ v', e = .returned v' ∧ WdsAt w' v' (nw d)) ∧ Kept W w') := Lib.hid fun W u1 u2 k1 k2 => by rw [hd]; exact refmul_any u1 u2 _ _ W k1 k2 (by omega) (by omega)
  rw [← hR]
  obtain ⟨u1, u2, rfl, h1, h2⟩ := ha
  obtain ⟨u3, u4, rfl, h3, h4⟩ := hb
  obtain ⟨a1, c1, rfl⟩ := h1.shape
  obtain ⟨a2, c2, rfl⟩ := h2.shape
  obtain ⟨a3, c3, rfl⟩ := h3.shape
  obtain ⟨a4, c4, rfl⟩ := h4.shape
  obtain ⟨w2, hw2⟩ : ∃ w2, w2 = ((w.alloc (.cells #[.bool r.neg, .slice a1 r.num.length c1, .slice a2 r.den.length c2] 39)).alloc (.cells #[.bool s.neg, .slice a3 s.num.length c3, .slice a4 s.den.length c4] 39)).alloc (.cells #[.bool false, .slice none 0 0, .slice none 0 0] 39) := ⟨_, rfl⟩
  have HM := Lib.hid (res_made2 w (.cells #[.bool r.neg, .slice a1 r.num.length c1, .slice a2 r.den.length c2] 39) (.cells #[.bool s.neg, .slice a3 s.num.length c3, .slice a4 s.den.length c4] 39))
  rw [← hw2] at HM
  have hb2 := RowAt.made (w.alloc (.cells #[.bool r.neg, .slice a1 r.num.length c1, .slice a2 r.den.length c2] 39)) #[.bool s.neg, .slice a3 s.num.length c3, .slice a4 s.den.length c4] 39
  simp only [World.size_alloc] at hb2
  have HB2 : Hid (RowAt w2 (w.heap.size + 1) 39 [.bool s.neg, .slice a3 s.num.length c3, .slice a4 s.den.length c4]) := Lib.hid (by rw [hw2]; exact hb2.kept ((Kept.refl _).alloc _))
  have HW2 := Lib.hid hw2
  generalize nw d = DE at *
  generalize (partsR r).1 = s1 at *
  generalize (partsR s).1 = s2 at *
  generalize (partsR r).2.1 = N at *
  generalize (partsR r).2.2 = D at *
  generalize (partsR s).2.1 = M at *
  generalize (partsR s).2.2 = E at *
  generalize r.num.length = n1 at *
  generalize r.den.length = n2 at *
  generalize s.num.length = n3 at *
  generalize s.den.length = n4 at *
  generalize r.neg = neg1 at *
  generalize s.neg = neg2 at *
  clear hok1 hok2 hsh1 hsh2 hR h1 h2 h3 h4 hr hs hw2 hb2 hp hq hd hlp hlq hld hd0
  have hb : (s1 == s2) = true := by simpa using hss
  clear hss
  go_enter Tryz.func91, Tryz.ntmps91
  go_wp2_with fail
  rw [← HW2.out]
  refine (HP1.out _ HM.out.2.2).mono ?_
  rintro e w3 ⟨⟨u3, u4, rfl, hu3, hu4⟩, hk3⟩
  have HN := Lib.hid hu3
  have HD := Lib.hid hu4
  have HR3 := Lib.hid (HM.out.1.kept hk3)
  have HF3 := Lib.hid (HM.out.2.1.kept hk3)
  have hb3 := HB2.out.kept hk3
  have g0 := hb3.cell (i := 0) (by simp)
  have g1 := hb3.cell (i := 1) (by simp)
  have g2 := hb3.cell (i := 2) (by simp)
  simp only [List.getElem_cons_succ, List.getElem_cons_zero] at g0 g1 g2
  have HK3 := Lib.hid (HM.out.2.2.trans hk3)
  clear hu3 hu4 hk3 hb3
  go_wp2_with fail
  refine (HP2.out _ HK3.out).mono ?_
  rintro e w4 ⟨⟨u5, u6, rfl, hu5, hu6⟩, hk4⟩
  have HN' := Lib.hid (HN.out.kept hk4)
  have HD' := Lib.hid (HD.out.kept hk4)
  have HMM := Lib.hid hu5
  have HEE := Lib.hid hu6
  have HR4 := Lib.hid (HR3.out.kept hk4)
  have HF4 := Lib.hid (HF3.out.kept hk4)
  have HK4 := Lib.hid (HK3.out.trans hk4)
  clear hu5 hu6 hk4 g0 g1 g2
  go_wp2_with fail
  refine (HM1.out _ _ _ HN'.out HEE.out).mono ?_
  rintro e w5 ⟨⟨v5, rfl, hv5⟩, hk5⟩
  have HV5 := Lib.hid hv5
  have HR5 := Lib.hid (HR4.out.kept hk5)
  have HF5 := Lib.hid (HF4.out.kept hk5)
  have HD5 := Lib.hid (HD'.out.kept hk5)
  have HE5 := Lib.hid (HEE.out.kept hk5)
  have HM5 := Lib.hid (HMM.out.kept hk5)
  have HK5 := Lib.hid (HK4.out.trans hk5)
  clear hv5 hk5
  go_wp2_with fail
  refine (HM2.out _ _ _ HM5.out HD5.out).mono ?_
  rintro e w6 ⟨⟨v6, rfl, hv6⟩, hk6⟩
  have HV6 := Lib.hid hv6
  have HV5' := Lib.hid (HV5.out.kept hk6)
  have HR6 := Lib.hid (HR5.out.kept hk6)
  have HF6 := Lib.hid (HF5.out.kept hk6)
  have HD6 := Lib.hid (HD5.out.kept hk6)
  have HE6 := Lib.hid (HE5.out.kept hk6)
  have HK6 := Lib.hid (HK5.out.trans hk6)
  clear hv6 hk6
  go_wp2_with fail
  refine (HM3.out _ _ _ HD6.out HE6.out).mono ?_
  rintro e w7 ⟨⟨v7, rfl, hv7⟩, hk7⟩
  have HVD := Lib.hid hv7
  have HVP := Lib.hid (HV5'.out.kept hk7)
  have HVQ := Lib.hid (HV6.out.kept hk7)
  have HR7 := Lib.hid (HR6.out.kept hk7)
  have HF7 := Lib.hid (HF6.out.kept hk7)
  have HK7 := Lib.hid (HK6.out.trans hk7)
  clear hv7 hk7
  go_wp2_with fail
  refine (HAD.out _ _ _ HVP.out HVQ.out).mono ?_
  rintro e w9 ⟨⟨v9, rfl, hv9⟩, hk9⟩
  have HVD8 := HVD
  have HR8 := HR7
  have HF8 := HF7
  have HK8 := HK7
  have HV9 := Lib.hid hv9
  have HVD9 := Lib.hid (HVD8.out.kept hk9)
  have HR9 := Lib.hid (HR8.out.kept hk9)
  have HF9 := Lib.hid (HF8.out.kept hk9)
  have HK9 := Lib.hid (HK8.out.trans hk9)
  clear hv9 hk9
  go_wp2_with fail
  refine (HFO.out _ _ _ HV9.out HVD9.out).mono ?_
  rintro e w10 ⟨⟨v10, rfl, hv10⟩, hk10⟩
  have hr10 := HR9.out.kept hk10
  have HF10 := Lib.hid (HF9.out.kept hk10)
  have HK10 := Lib.hid (HK9.out.trans hk10)
  obtain ⟨u7, u8, rfl, k7, k8⟩ := hv10
  obtain ⟨a7, c7, rfl⟩ := k7.shape
  obtain ⟨a8, c8, rfl⟩ := k8.shape
  obtain ⟨y0, y1, y2, hra⟩ := rat_stored2 (.cells #[.bool R.neg, .slice a7 R.num.length c7, .slice a8 R.den.length c8] 39) hr10 HF10.out k7 k8
  have hlt := hr10.lt
  have g0 := hr10.cell (i := 0) (by simp)
  have g1 := hr10.cell (i := 1) (by simp)
  have g2 := hr10.cell (i := 2) (by simp)
  have f0 := hr10.free 0
  have f1 := hr10.free 1
  have f2 := hr10.free 2
  have HRA := Lib.hid hra
  have Y0 := Lib.hid y0
  have Y1 := Lib.hid y1
  have Y2 := Lib.hid y2
  clear hra y0 y1 y2 k7 k8 hr10 hk10
  generalize R.num.length = n7 at *
  generalize R.den.length = n8 at *
  go_wp2
  refine bodyPost_ret (v := .agg #[.bool R.neg, .slice a7 n7 c7, .slice a8 n8 c8]) ?_ rfl ⟨⟨_, rfl, HRA.out⟩, ?_⟩
  · simp [results, Tryz.results91, go_sem, Y0.out, Y1.out, Y2.out]
  · exact (((HK10.out.store (by omega) _ _).store (by omega) _ _).store (by omega) _ _).alloc _
set_option maxRecDepth 100000 in
set_option maxHeartbeats 4000000 in
theorem refadd02_ge (va vb : Value) (r s : Rw) (w : World) (ha : RatAt w va r) (hb : RatAt w vb s) (hr : r.Short 34359738368) (hs : s.Short 34359738368) (hss : (partsR r).1 ≠ (partsR s).1) (hle : nv (partsR s).2.1 * nv (partsR r).2.2 ≤ nv (partsR r).2.1 * nv (partsR s).2.2) : Calls Tryz.prog 91 #[va, vb] w fun e w' => (∃ v', e = .returned v' ∧ RatAt w' v' (canR (ratOf r + ratOf s))) ∧ Kept w w' := by
  have HP1 := Lib.hid (fun W (hk : Kept w W) => refparts_any va r W (ha.kept hk) ⟨Nat.le_trans hr.1 (by omega), Nat.le_trans hr.2 (by omega)⟩)
  have HP2 := Lib.hid (fun W (hk : Kept w W) => refparts_any vb s W (hb.kept hk) ⟨Nat.le_trans hs.1 (by omega), Nat.le_trans hs.2 (by omega)⟩)
  have hok1 := partsR_ok ha.ok
  have hok2 := partsR_ok hb.ok
  have hsh1 := parts_short hr (by omega)
  have hsh2 := parts_short hs (by omega)
  obtain ⟨R, hR⟩ : ∃ R, R = canR (ratOf r + ratOf s) := ⟨_, rfl⟩
  obtain ⟨p, hp⟩ : ∃ p, p = nv (partsR r).2.1 * nv (partsR s).2.2 := ⟨_, rfl⟩
  obtain ⟨q, hq⟩ : ∃ q, q = nv (partsR s).2.1 * nv (partsR r).2.2 := ⟨_, rfl⟩
  obtain ⟨d, hd⟩ : ∃ d, d = nv (partsR r).2.2 * nv (partsR s).2.2 := ⟨_, rfl⟩
  have hlp : (nw p).length ≤ 68719476736 := by rw [hp]; exact Nat.le_trans (nw_mul_len hok1.1 hok2.2.1) (by omega)
  have hlq : (nw q).length ≤ 68719476736 := by rw [hq]; exact Nat.le_trans (nw_mul_len hok2.1 hok1.2.1) (by omega)
  have hld : (nw d).length ≤ 68719476736 := by rw [hd]; exact Nat.le_trans (nw_mul_len hok1.2.1 hok2.2.1) (by omega)
  have hd0 : d ≠ 0 := by rw [hd]; exact Nat.mul_ne_zero hok1.2.2.1 hok2.2.2.1
  rw [← hp, ← hq] at hle
  have HCM : Hid (∀ W u1 u2, WdsAt W u1 (nw p) → WdsAt W u2 (nw q) → Calls Tryz.prog 173 #[u1, u2] W fun e w' => e = .returned (.int .i64 (cmpN p q)) ∧ Kept W w') := Lib.hid fun W u1 u2 k1 k2 => by
    have h := refcmp_any u1 u2 _ _ W k1 k2
    rw [nv_nw, nv_nw] at h
    exact h.mono fun _ _ ⟨h1, h2⟩ => ⟨h1, by rw [h2]; exact Kept.refl _⟩
  have HSU : Hid (∀ W u1 u2, WdsAt W u1 (nw p) → WdsAt W u2 (nw q) → Calls Tryz.prog 174 #[u1, u2] W fun e w' => (∃ v', e = .returned (.tuple #[v', .int .i64 0]) ∧ WdsAt w' v' (nw (p - q))) ∧ Kept W w') := Lib.hid fun W u1 u2 k1 k2 => by
    have h := refsub_any u1 u2 _ _ W k1 k2 (by rw [nv_nw, nv_nw]; exact hle)
    rw [nv_nw, nv_nw] at h
    exact h
  obtain ⟨cm, hcm⟩ : ∃ cm, cm = cmpN p q := ⟨_, rfl⟩
  rw [← hcm] at HCM
  have hcm0 : ¬ cm < 0 := by
    rw [hcm]
    rcases Nat.lt_or_ge q p with h | h
    · rw [cmpN_gt h]; omega
    · rw [cmpN_eq (by omega)]; omega
  have HFO : Hid (∀ W u1 u2, WdsAt W u1 (nw (p - q)) → WdsAt W u2 (nw d) → Calls Tryz.prog 171 #[.bool (partsR r).1, u1, u2] W fun e w' => (∃ v, e = .returned (.tuple #[v, .int .i64 0]) ∧ RatAt w' v R) ∧ Kept W w') := Lib.hid fun W u1 u2 k1 k2 => by
    have h := reffrom_any (partsR r).1 u1 u2 _ _ W k1 k2 (Nat.le_trans (nw_mono_len (Nat.sub_le p q)) (by omega)) (Nat.le_trans hld (by omega)) (by rw [nv_nw]; exact hd0)
    rw [nv_nw, nv_nw, form_can _ _ _ hd0, hp, hq, hd, ratOf_sub ha.ok hb.ok hss (by rw [hp, hq] at hle; exact hle), ← hR] at h
    exact h
  have HM1 : Hid (∀ W u1 u2, WdsAt W u1 (partsR r).2.1 → WdsAt W u2 (partsR s).2.2 → Calls Tryz.prog 170 #[u1, u2] W fun e w' => (∃ v', e = .returned v' ∧ WdsAt w' v' (nw p)) ∧ Kept W w') := Lib.hid fun W u1 u2 k1 k2 => by rw [hp]; exact refmul_any u1 u2 _ _ W k1 k2 (by omega) (by omega)
  have HM2 : Hid (∀ W u1 u2, WdsAt W u1 (partsR s).2.1 → WdsAt W u2 (partsR r).2.2 → Calls Tryz.prog 170 #[u1, u2] W fun e w' => (∃ v', e = .returned v' ∧ WdsAt w' v' (nw q)) ∧ Kept W w') := Lib.hid fun W u1 u2 k1 k2 => by rw [hq]; exact refmul_any u1 u2 _ _ W k1 k2 (by omega) (by omega)
  have HM3 : Hid (∀ W u1 u2, WdsAt W u1 (partsR r).2.2 → WdsAt W u2 (partsR s).2.2 → Calls Tryz.prog 170 #[u1, u2] W fun e w' => (∃ v', e = .returned v' ∧ WdsAt w' v' (nw d)) ∧ Kept W w') := Lib.hid fun W u1 u2 k1 k2 => by rw [hd]; exact refmul_any u1 u2 _ _ W k1 k2 (by omega) (by omega)
  rw [← hR]
  obtain ⟨u1, u2, rfl, h1, h2⟩ := ha
  obtain ⟨u3, u4, rfl, h3, h4⟩ := hb
  obtain ⟨a1, c1, rfl⟩ := h1.shape
  obtain ⟨a2, c2, rfl⟩ := h2.shape
  obtain ⟨a3, c3, rfl⟩ := h3.shape
  obtain ⟨a4, c4, rfl⟩ := h4.shape
  obtain ⟨w2, hw2⟩ : ∃ w2, w2 = ((w.alloc (.cells #[.bool r.neg, .slice a1 r.num.length c1, .slice a2 r.den.length c2] 39)).alloc (.cells #[.bool s.neg, .slice a3 s.num.length c3, .slice a4 s.den.length c4] 39)).alloc (.cells #[.bool false, .slice none 0 0, .slice none 0 0] 39) := ⟨_, rfl⟩
  have HM := Lib.hid (res_made2 w (.cells #[.bool r.neg, .slice a1 r.num.length c1, .slice a2 r.den.length c2] 39) (.cells #[.bool s.neg, .slice a3 s.num.length c3, .slice a4 s.den.length c4] 39))
  rw [← hw2] at HM
  have hb2 := RowAt.made (w.alloc (.cells #[.bool r.neg, .slice a1 r.num.length c1, .slice a2 r.den.length c2] 39)) #[.bool s.neg, .slice a3 s.num.length c3, .slice a4 s.den.length c4] 39
  simp only [World.size_alloc] at hb2
  have HB2 : Hid (RowAt w2 (w.heap.size + 1) 39 [.bool s.neg, .slice a3 s.num.length c3, .slice a4 s.den.length c4]) := Lib.hid (by rw [hw2]; exact hb2.kept ((Kept.refl _).alloc _))
  have HW2 := Lib.hid hw2
  generalize nw d = DE at *
  generalize (partsR r).1 = s1 at *
  generalize (partsR s).1 = s2 at *
  generalize (partsR r).2.1 = N at *
  generalize (partsR r).2.2 = D at *
  generalize (partsR s).2.1 = M at *
  generalize (partsR s).2.2 = E at *
  generalize r.num.length = n1 at *
  generalize r.den.length = n2 at *
  generalize s.num.length = n3 at *
  generalize s.den.length = n4 at *
  generalize r.neg = neg1 at *
  generalize s.neg = neg2 at *
  clear hok1 hok2 hsh1 hsh2 hR h1 h2 h3 h4 hr hs hw2 hb2 hp hq hd hlp hlq hld hd0
  have hb : (s1 == s2) = false := by simpa using hss
  clear hss hcm hle
  go_enter Tryz.func91, Tryz.ntmps91
  go_wp2_with fail
  rw [← HW2.out]
  refine (HP1.out _ HM.out.2.2).mono ?_
  rintro e w3 ⟨⟨u3, u4, rfl, hu3, hu4⟩, hk3⟩
  have HN := Lib.hid hu3
  have HD := Lib.hid hu4
  have HR3 := Lib.hid (HM.out.1.kept hk3)
  have HF3 := Lib.hid (HM.out.2.1.kept hk3)
  have hb3 := HB2.out.kept hk3
  have g0 := hb3.cell (i := 0) (by simp)
  have g1 := hb3.cell (i := 1) (by simp)
  have g2 := hb3.cell (i := 2) (by simp)
  simp only [List.getElem_cons_succ, List.getElem_cons_zero] at g0 g1 g2
  have HK3 := Lib.hid (HM.out.2.2.trans hk3)
  clear hu3 hu4 hk3 hb3
  go_wp2_with fail
  refine (HP2.out _ HK3.out).mono ?_
  rintro e w4 ⟨⟨u5, u6, rfl, hu5, hu6⟩, hk4⟩
  have HN' := Lib.hid (HN.out.kept hk4)
  have HD' := Lib.hid (HD.out.kept hk4)
  have HMM := Lib.hid hu5
  have HEE := Lib.hid hu6
  have HR4 := Lib.hid (HR3.out.kept hk4)
  have HF4 := Lib.hid (HF3.out.kept hk4)
  have HK4 := Lib.hid (HK3.out.trans hk4)
  clear hu5 hu6 hk4 g0 g1 g2
  go_wp2_with fail
  refine (HM1.out _ _ _ HN'.out HEE.out).mono ?_
  rintro e w5 ⟨⟨v5, rfl, hv5⟩, hk5⟩
  have HV5 := Lib.hid hv5
  have HR5 := Lib.hid (HR4.out.kept hk5)
  have HF5 := Lib.hid (HF4.out.kept hk5)
  have HD5 := Lib.hid (HD'.out.kept hk5)
  have HE5 := Lib.hid (HEE.out.kept hk5)
  have HM5 := Lib.hid (HMM.out.kept hk5)
  have HK5 := Lib.hid (HK4.out.trans hk5)
  clear hv5 hk5
  go_wp2_with fail
  refine (HM2.out _ _ _ HM5.out HD5.out).mono ?_
  rintro e w6 ⟨⟨v6, rfl, hv6⟩, hk6⟩
  have HV6 := Lib.hid hv6
  have HV5' := Lib.hid (HV5.out.kept hk6)
  have HR6 := Lib.hid (HR5.out.kept hk6)
  have HF6 := Lib.hid (HF5.out.kept hk6)
  have HD6 := Lib.hid (HD5.out.kept hk6)
  have HE6 := Lib.hid (HE5.out.kept hk6)
  have HK6 := Lib.hid (HK5.out.trans hk6)
  clear hv6 hk6
  go_wp2_with fail
  refine (HM3.out _ _ _ HD6.out HE6.out).mono ?_
  rintro e w7 ⟨⟨v7, rfl, hv7⟩, hk7⟩
  have HVD := Lib.hid hv7
  have HVP := Lib.hid (HV5'.out.kept hk7)
  have HVQ := Lib.hid (HV6.out.kept hk7)
  have HR7 := Lib.hid (HR6.out.kept hk7)
  have HF7 := Lib.hid (HF6.out.kept hk7)
  have HK7 := Lib.hid (HK6.out.trans hk7)
  clear hv7 hk7
  go_wp2_with fail
  refine (HCM.out _ _ _ HVP.out HVQ.out).mono ?_
  rintro e w8 ⟨rfl, hk8⟩
  have HVD8 := Lib.hid (HVD.out.kept hk8)
  have HVP8 := Lib.hid (HVP.out.kept hk8)
  have HVQ8 := Lib.hid (HVQ.out.kept hk8)
  have HR8 := Lib.hid (HR7.out.kept hk8)
  have HF8 := Lib.hid (HF7.out.kept hk8)
  have HK8 := Lib.hid (HK7.out.trans hk8)
  clear hk8
  go_wp2_with fail
  refine (HSU.out _ _ _ HVP8.out HVQ8.out).mono ?_
  rintro e w9 ⟨⟨v9, rfl, hv9⟩, hk9⟩
  have HV9 := Lib.hid hv9
  have HVD9 := Lib.hid (HVD8.out.kept hk9)
  have HR9 := Lib.hid (HR8.out.kept hk9)
  have HF9 := Lib.hid (HF8.out.kept hk9)
  have HK9 := Lib.hid (HK8.out.trans hk9)
  clear hv9 hk9
  go_wp2_with fail
  refine (HFO.out _ _ _ HV9.out HVD9.out).mono ?_
  rintro e w10 ⟨⟨v10, rfl, hv10⟩, hk10⟩
  have hr10 := HR9.out.kept hk10
  have HF10 := Lib.hid (HF9.out.kept hk10)
  have HK10 := Lib.hid (HK9.out.trans hk10)
  obtain ⟨u7, u8, rfl, k7, k8⟩ := hv10
  obtain ⟨a7, c7, rfl⟩ := k7.shape
  obtain ⟨a8, c8, rfl⟩ := k8.shape
  obtain ⟨y0, y1, y2, hra⟩ := rat_stored2 (.cells #[.bool R.neg, .slice a7 R.num.length c7, .slice a8 R.den.length c8] 39) hr10 HF10.out k7 k8
  have hlt := hr10.lt
  have g0 := hr10.cell (i := 0) (by simp)
  have g1 := hr10.cell (i := 1) (by simp)
  have g2 := hr10.cell (i := 2) (by simp)
  have f0 := hr10.free 0
  have f1 := hr10.free 1
  have f2 := hr10.free 2
  have HRA := Lib.hid hra
  have Y0 := Lib.hid y0
  have Y1 := Lib.hid y1
  have Y2 := Lib.hid y2
  clear hra y0 y1 y2 k7 k8 hr10 hk10
  generalize R.num.length = n7 at *
  generalize R.den.length = n8 at *
  go_wp2
  refine bodyPost_ret (v := .agg #[.bool R.neg, .slice a7 n7 c7, .slice a8 n8 c8]) ?_ rfl ⟨⟨_, rfl, HRA.out⟩, ?_⟩
  · simp [results, Tryz.results91, go_sem, Y0.out, Y1.out, Y2.out]
  · exact (((HK10.out.store (by omega) _ _).store (by omega) _ _).store (by omega) _ _).alloc _
set_option maxRecDepth 100000 in
set_option maxHeartbeats 4000000 in
theorem refadd02_lt (va vb : Value) (r s : Rw) (w : World) (ha : RatAt w va r) (hb : RatAt w vb s) (hr : r.Short 34359738368) (hs : s.Short 34359738368) (hss : (partsR r).1 ≠ (partsR s).1) (hle : nv (partsR r).2.1 * nv (partsR s).2.2 < nv (partsR s).2.1 * nv (partsR r).2.2) : Calls Tryz.prog 91 #[va, vb] w fun e w' => (∃ v', e = .returned v' ∧ RatAt w' v' (canR (ratOf r + ratOf s))) ∧ Kept w w' := by
  have HP1 := Lib.hid (fun W (hk : Kept w W) => refparts_any va r W (ha.kept hk) ⟨Nat.le_trans hr.1 (by omega), Nat.le_trans hr.2 (by omega)⟩)
  have HP2 := Lib.hid (fun W (hk : Kept w W) => refparts_any vb s W (hb.kept hk) ⟨Nat.le_trans hs.1 (by omega), Nat.le_trans hs.2 (by omega)⟩)
  have hok1 := partsR_ok ha.ok
  have hok2 := partsR_ok hb.ok
  have hsh1 := parts_short hr (by omega)
  have hsh2 := parts_short hs (by omega)
  obtain ⟨R, hR⟩ : ∃ R, R = canR (ratOf r + ratOf s) := ⟨_, rfl⟩
  obtain ⟨p, hp⟩ : ∃ p, p = nv (partsR r).2.1 * nv (partsR s).2.2 := ⟨_, rfl⟩
  obtain ⟨q, hq⟩ : ∃ q, q = nv (partsR s).2.1 * nv (partsR r).2.2 := ⟨_, rfl⟩
  obtain ⟨d, hd⟩ : ∃ d, d = nv (partsR r).2.2 * nv (partsR s).2.2 := ⟨_, rfl⟩
  have hlp : (nw p).length ≤ 68719476736 := by rw [hp]; exact Nat.le_trans (nw_mul_len hok1.1 hok2.2.1) (by omega)
  have hlq : (nw q).length ≤ 68719476736 := by rw [hq]; exact Nat.le_trans (nw_mul_len hok2.1 hok1.2.1) (by omega)
  have hld : (nw d).length ≤ 68719476736 := by rw [hd]; exact Nat.le_trans (nw_mul_len hok1.2.1 hok2.2.1) (by omega)
  have hd0 : d ≠ 0 := by rw [hd]; exact Nat.mul_ne_zero hok1.2.2.1 hok2.2.2.1
  rw [← hp, ← hq] at hle
  have HCM : Hid (∀ W u1 u2, WdsAt W u1 (nw p) → WdsAt W u2 (nw q) → Calls Tryz.prog 173 #[u1, u2] W fun e w' => e = .returned (.int .i64 (cmpN p q)) ∧ Kept W w') := Lib.hid fun W u1 u2 k1 k2 => by
    have h := refcmp_any u1 u2 _ _ W k1 k2
    rw [nv_nw, nv_nw] at h
    exact h.mono fun _ _ ⟨h1, h2⟩ => ⟨h1, by rw [h2]; exact Kept.refl _⟩
  have HSU : Hid (∀ W u1 u2, WdsAt W u1 (nw q) → WdsAt W u2 (nw p) → Calls Tryz.prog 174 #[u1, u2] W fun e w' => (∃ v', e = .returned (.tuple #[v', .int .i64 0]) ∧ WdsAt w' v' (nw (q - p))) ∧ Kept W w') := Lib.hid fun W u1 u2 k1 k2 => by
    have h := refsub_any u1 u2 _ _ W k1 k2 (by rw [nv_nw, nv_nw]; exact Nat.le_of_lt hle)
    rw [nv_nw, nv_nw] at h
    exact h
  obtain ⟨cm, hcm⟩ : ∃ cm, cm = cmpN p q := ⟨_, rfl⟩
  rw [← hcm] at HCM
  have hcm0 : cm < 0 := by
    rw [hcm]
    rw [cmpN_lt hle]; omega
  have HFO : Hid (∀ W u1 u2, WdsAt W u1 (nw (q - p)) → WdsAt W u2 (nw d) → Calls Tryz.prog 171 #[.bool (partsR s).1, u1, u2] W fun e w' => (∃ v, e = .returned (.tuple #[v, .int .i64 0]) ∧ RatAt w' v R) ∧ Kept W w') := Lib.hid fun W u1 u2 k1 k2 => by
    have h := reffrom_any (partsR s).1 u1 u2 _ _ W k1 k2 (Nat.le_trans (nw_mono_len (Nat.sub_le q p)) (by omega)) (Nat.le_trans hld (by omega)) (by rw [nv_nw]; exact hd0)
    rw [nv_nw, nv_nw, form_can _ _ _ hd0, hp, hq, hd, ratOf_sub' ha.ok hb.ok hss (by rw [hp, hq] at hle; exact Nat.le_of_lt hle), ← hR] at h
    exact h
  have HM1 : Hid (∀ W u1 u2, WdsAt W u1 (partsR r).2.1 → WdsAt W u2 (partsR s).2.2 → Calls Tryz.prog 170 #[u1, u2] W fun e w' => (∃ v', e = .returned v' ∧ WdsAt w' v' (nw p)) ∧ Kept W w') := Lib.hid fun W u1 u2 k1 k2 => by rw [hp]; exact refmul_any u1 u2 _ _ W k1 k2 (by omega) (by omega)
  have HM2 : Hid (∀ W u1 u2, WdsAt W u1 (partsR s).2.1 → WdsAt W u2 (partsR r).2.2 → Calls Tryz.prog 170 #[u1, u2] W fun e w' => (∃ v', e = .returned v' ∧ WdsAt w' v' (nw q)) ∧ Kept W w') := Lib.hid fun W u1 u2 k1 k2 => by rw [hq]; exact refmul_any u1 u2 _ _ W k1 k2 (by omega) (by omega)
  have HM3 : Hid (∀ W u1 u2, WdsAt W u1 (partsR r).2.2 → WdsAt W u2 (partsR s).2.2 → Calls Tryz.prog 170 #[u1, u2] W fun e w' => (∃ v', e = .returned v' ∧ WdsAt w' v' (nw d)) ∧ Kept W w') := Lib.hid fun W u1 u2 k1 k2 => by rw [hd]; exact refmul_any u1 u2 _ _ W k1 k2 (by omega) (by omega)
  rw [← hR]
  obtain ⟨u1, u2, rfl, h1, h2⟩ := ha
  obtain ⟨u3, u4, rfl, h3, h4⟩ := hb
  obtain ⟨a1, c1, rfl⟩ := h1.shape
  obtain ⟨a2, c2, rfl⟩ := h2.shape
  obtain ⟨a3, c3, rfl⟩ := h3.shape
  obtain ⟨a4, c4, rfl⟩ := h4.shape
  obtain ⟨w2, hw2⟩ : ∃ w2, w2 = ((w.alloc (.cells #[.bool r.neg, .slice a1 r.num.length c1, .slice a2 r.den.length c2] 39)).alloc (.cells #[.bool s.neg, .slice a3 s.num.length c3, .slice a4 s.den.length c4] 39)).alloc (.cells #[.bool false, .slice none 0 0, .slice none 0 0] 39) := ⟨_, rfl⟩
  have HM := Lib.hid (res_made2 w (.cells #[.bool r.neg, .slice a1 r.num.length c1, .slice a2 r.den.length c2] 39) (.cells #[.bool s.neg, .slice a3 s.num.length c3, .slice a4 s.den.length c4] 39))
  rw [← hw2] at HM
  have hb2 := RowAt.made (w.alloc (.cells #[.bool r.neg, .slice a1 r.num.length c1, .slice a2 r.den.length c2] 39)) #[.bool s.neg, .slice a3 s.num.length c3, .slice a4 s.den.length c4] 39
  simp only [World.size_alloc] at hb2
  have HB2 : Hid (RowAt w2 (w.heap.size + 1) 39 [.bool s.neg, .slice a3 s.num.length c3, .slice a4 s.den.length c4]) := Lib.hid (by rw [hw2]; exact hb2.kept ((Kept.refl _).alloc _))
  have HW2 := Lib.hid hw2
  generalize nw d = DE at *
  generalize (partsR r).1 = s1 at *
  generalize (partsR s).1 = s2 at *
  generalize (partsR r).2.1 = N at *
  generalize (partsR r).2.2 = D at *
  generalize (partsR s).2.1 = M at *
  generalize (partsR s).2.2 = E at *
  generalize r.num.length = n1 at *
  generalize r.den.length = n2 at *
  generalize s.num.length = n3 at *
  generalize s.den.length = n4 at *
  generalize r.neg = neg1 at *
  generalize s.neg = neg2 at *
  clear hok1 hok2 hsh1 hsh2 hR h1 h2 h3 h4 hr hs hw2 hb2 hp hq hd hlp hlq hld hd0
  have hb : (s1 == s2) = false := by simpa using hss
  clear hss hcm hle
  go_enter Tryz.func91, Tryz.ntmps91
  go_wp2_with fail
  rw [← HW2.out]
  refine (HP1.out _ HM.out.2.2).mono ?_
  rintro e w3 ⟨⟨u3, u4, rfl, hu3, hu4⟩, hk3⟩
  have HN := Lib.hid hu3
  have HD := Lib.hid hu4
  have HR3 := Lib.hid (HM.out.1.kept hk3)
  have HF3 := Lib.hid (HM.out.2.1.kept hk3)
  have hb3 := HB2.out.kept hk3
  have g0 := hb3.cell (i := 0) (by simp)
  have g1 := hb3.cell (i := 1) (by simp)
  have g2 := hb3.cell (i := 2) (by simp)
  simp only [List.getElem_cons_succ, List.getElem_cons_zero] at g0 g1 g2
  have HK3 := Lib.hid (HM.out.2.2.trans hk3)
  clear hu3 hu4 hk3 hb3
  go_wp2_with fail
  refine (HP2.out _ HK3.out).mono ?_
  rintro e w4 ⟨⟨u5, u6, rfl, hu5, hu6⟩, hk4⟩
  have HN' := Lib.hid (HN.out.kept hk4)
  have HD' := Lib.hid (HD.out.kept hk4)
  have HMM := Lib.hid hu5
  have HEE := Lib.hid hu6
  have HR4 := Lib.hid (HR3.out.kept hk4)
  have HF4 := Lib.hid (HF3.out.kept hk4)
  have HK4 := Lib.hid (HK3.out.trans hk4)
  clear hu5 hu6 hk4 g0 g1 g2
  go_wp2_with fail
  refine (HM1.out _ _ _ HN'.out HEE.out).mono ?_
  rintro e w5 ⟨⟨v5, rfl, hv5⟩, hk5⟩
  have HV5 := Lib.hid hv5
  have HR5 := Lib.hid (HR4.out.kept hk5)
  have HF5 := Lib.hid (HF4.out.kept hk5)
  have HD5 := Lib.hid (HD'.out.kept hk5)
  have HE5 := Lib.hid (HEE.out.kept hk5)
  have HM5 := Lib.hid (HMM.out.kept hk5)
  have HK5 := Lib.hid (HK4.out.trans hk5)
  clear hv5 hk5
  go_wp2_with fail
  refine (HM2.out _ _ _ HM5.out HD5.out).mono ?_
  rintro e w6 ⟨⟨v6, rfl, hv6⟩, hk6⟩
  have HV6 := Lib.hid hv6
  have HV5' := Lib.hid (HV5.out.kept hk6)
  have HR6 := Lib.hid (HR5.out.kept hk6)
  have HF6 := Lib.hid (HF5.out.kept hk6)
  have HD6 := Lib.hid (HD5.out.kept hk6)
  have HE6 := Lib.hid (HE5.out.kept hk6)
  have HK6 := Lib.hid (HK5.out.trans hk6)
  clear hv6 hk6
  go_wp2_with fail
  refine (HM3.out _ _ _ HD6.out HE6.out).mono ?_
  rintro e w7 ⟨⟨v7, rfl, hv7⟩, hk7⟩
  have HVD := Lib.hid hv7
  have HVP := Lib.hid (HV5'.out.kept hk7)
  have HVQ := Lib.hid (HV6.out.kept hk7)
  have HR7 := Lib.hid (HR6.out.kept hk7)
  have HF7 := Lib.hid (HF6.out.kept hk7)
  have HK7 := Lib.hid (HK6.out.trans hk7)
  clear hv7 hk7
  go_wp2_with fail
  refine (HCM.out _ _ _ HVP.out HVQ.out).mono ?_
  rintro e w8 ⟨rfl, hk8⟩
  have HVD8 := Lib.hid (HVD.out.kept hk8)
  have HVP8 := Lib.hid (HVP.out.kept hk8)
  have HVQ8 := Lib.hid (HVQ.out.kept hk8)
  have HR8 := Lib.hid (HR7.out.kept hk8)
  have HF8 := Lib.hid (HF7.out.kept hk8)
  have HK8 := Lib.hid (HK7.out.trans hk8)
  clear hk8
  go_wp2_with fail
  refine (HSU.out _ _ _ HVQ8.out HVP8.out).mono ?_
  rintro e w9 ⟨⟨v9, rfl, hv9⟩, hk9⟩
  have HV9 := Lib.hid hv9
  have HVD9 := Lib.hid (HVD8.out.kept hk9)
  have HR9 := Lib.hid (HR8.out.kept hk9)
  have HF9 := Lib.hid (HF8.out.kept hk9)
  have HK9 := Lib.hid (HK8.out.trans hk9)
  clear hv9 hk9
  go_wp2_with fail
  refine (HFO.out _ _ _ HV9.out HVD9.out).mono ?_
  rintro e w10 ⟨⟨v10, rfl, hv10⟩, hk10⟩
  have hr10 := HR9.out.kept hk10
  have HF10 := Lib.hid (HF9.out.kept hk10)
  have HK10 := Lib.hid (HK9.out.trans hk10)
  obtain ⟨u7, u8, rfl, k7, k8⟩ := hv10
  obtain ⟨a7, c7, rfl⟩ := k7.shape
  obtain ⟨a8, c8, rfl⟩ := k8.shape
  obtain ⟨y0, y1, y2, hra⟩ := rat_stored2 (.cells #[.bool R.neg, .slice a7 R.num.length c7, .slice a8 R.den.length c8] 39) hr10 HF10.out k7 k8
  have hlt := hr10.lt
  have g0 := hr10.cell (i := 0) (by simp)
  have g1 := hr10.cell (i := 1) (by simp)
  have g2 := hr10.cell (i := 2) (by simp)
  have f0 := hr10.free 0
  have f1 := hr10.free 1
  have f2 := hr10.free 2
  have HRA := Lib.hid hra
  have Y0 := Lib.hid y0
  have Y1 := Lib.hid y1
  have Y2 := Lib.hid y2
  clear hra y0 y1 y2 k7 k8 hr10 hk10
  generalize R.num.length = n7 at *
  generalize R.den.length = n8 at *
  go_wp2
  refine bodyPost_ret (v := .agg #[.bool R.neg, .slice a7 n7 c7, .slice a8 n8 c8]) ?_ rfl ⟨⟨_, rfl, HRA.out⟩, ?_⟩
  · simp [results, Tryz.results91, go_sem, Y0.out, Y1.out, Y2.out]
  · exact (((HK10.out.store (by omega) _ _).store (by omega) _ _).store (by omega) _ _).alloc _
theorem refadd02_any (va vb : Value) (r s : Rw) (w : World) (ha : RatAt w va r) (hb : RatAt w vb s) (hr : r.Short 34359738368) (hs : s.Short 34359738368) : Calls Tryz.prog 91 #[va, vb] w fun e w' => (∃ v', e = .returned v' ∧ RatAt w' v' (canR (ratOf r + ratOf s))) ∧ Kept w w' := by
  by_cases h : (partsR r).1 = (partsR s).1
  · exact refadd02_same va vb r s w ha hb hr hs h
  · rcases Nat.lt_or_ge (nv (partsR r).2.1 * nv (partsR s).2.2) (nv (partsR s).2.1 * nv (partsR r).2.2) with h2 | h2
    · exact refadd02_lt va vb r s w ha hb hr hs h h2
    · exact refadd02_ge va vb r s w ha hb hr hs h h2
end Go.Proofs.YtbkchheikkbebaaGreatDoor

/-
  Walks: faultlineref02.Sub, Cmp, Prob.
-/
namespace Go.Proofs.YtbkchheikkbebaaGreatDoor
open Go.RowKit

set_option maxRecDepth 100000 in
set_option maxHeartbeats 4000000 in
theorem refsub02_any (va vb : Value) (r s : Rw) (w : World) (ha : RatAt w va r) (hb : RatAt w vb s) (hr : r.Short 34359738368) (hs : s.Short 34359738368) : Calls Tryz.prog 113 #[va, vb] w fun e w' => (∃ v', e = .returned v' ∧ RatAt w' v' (canR (ratOf r - ratOf s))) ∧ Kept w w' := by
  have HNE := Lib.hid (fun W (hk : Kept w W) => refneg_any vb s W (hb.kept hk) ⟨Nat.le_trans hs.1 (by omega), Nat.le_trans hs.2 (by omega)⟩)
  obtain ⟨R, hR⟩ : ∃ R, R = canR (ratOf r - ratOf s) := ⟨_, rfl⟩
  have HAD : Hid (∀ W v, Kept w W → RatAt W v (canR (- ratOf s)) → Calls Tryz.prog 91 #[va, v] W fun e w' => (∃ v', e = .returned v' ∧ RatAt w' v' R) ∧ Kept W w') := Lib.hid fun W v hk hv => by
    have h := refadd02_any va v r _ W (ha.kept hk) hv hr (short_neg hb.ok hs (by omega))
    rw [ratOf_can, ← Rat.sub_eq_add_neg, ← hR] at h
    exact h
  rw [← hR]
  obtain ⟨u1, u2, rfl, h1, h2⟩ := ha
  obtain ⟨u3, u4, rfl, h3, h4⟩ := hb
  obtain ⟨a1, c1, rfl⟩ := h1.shape
  obtain ⟨a2, c2, rfl⟩ := h2.shape
  obtain ⟨a3, c3, rfl⟩ := h3.shape
  obtain ⟨a4, c4, rfl⟩ := h4.shape
  generalize r.num.length = n1 at *
  generalize r.den.length = n2 at *
  generalize s.num.length = n3 at *
  generalize s.den.length = n4 at *
  generalize r.neg = neg1 at *
  generalize s.neg = neg2 at *
  obtain ⟨w2, hw2⟩ : ∃ w2, w2 = ((w.alloc (.cells #[.bool neg1, .slice a1 n1 c1, .slice a2 n2 c2] 39)).alloc (.cells #[.bool neg2, .slice a3 n3 c3, .slice a4 n4 c4] 39)).alloc (.cells #[.bool false, .slice none 0 0, .slice none 0 0] 39) := ⟨_, rfl⟩
  have HM := Lib.hid (res_made2 w (.cells #[.bool neg1, .slice a1 n1 c1, .slice a2 n2 c2] 39) (.cells #[.bool neg2, .slice a3 n3 c3, .slice a4 n4 c4] 39))
  rw [← hw2] at HM
  have ha2 := RowAt.made w #[.bool neg1, .slice a1 n1 c1, .slice a2 n2 c2] 39
  have HA2 : Hid (RowAt w2 w.heap.size 39 [.bool neg1, .slice a1 n1 c1, .slice a2 n2 c2]) := Lib.hid (by rw [hw2]; exact ha2.kept (((Kept.refl _).alloc _).alloc _))
  have hb2 := RowAt.made (w.alloc (.cells #[.bool neg1, .slice a1 n1 c1, .slice a2 n2 c2] 39)) #[.bool neg2, .slice a3 n3 c3, .slice a4 n4 c4] 39
  simp only [World.size_alloc] at hb2
  have HB2 : Hid (RowAt w2 (w.heap.size + 1) 39 [.bool neg2, .slice a3 n3 c3, .slice a4 n4 c4]) := Lib.hid (by rw [hw2]; exact hb2.kept ((Kept.refl _).alloc _))
  have HW2 := Lib.hid hw2
  clear hR h1 h2 h3 h4 hr hs hw2 ha2 hb2
  have p0 := HA2.out.cell (i := 0) (by simp)
  have p1 := HA2.out.cell (i := 1) (by simp)
  have p2 := HA2.out.cell (i := 2) (by simp)
  have g0 := HB2.out.cell (i := 0) (by simp)
  have g1 := HB2.out.cell (i := 1) (by simp)
  have g2 := HB2.out.cell (i := 2) (by simp)
  simp only [List.getElem_cons_succ, List.getElem_cons_zero] at p0 p1 p2 g0 g1 g2
  go_enter Tryz.func113, Tryz.ntmps113
  go_wp2_with fail
  rw [← HW2.out]
  go_region_with (first
    | (go_at_call 107; (with_reducible refine (HNE.out _ HM.out.2.2.drew).mono ?_); rintro e w3 ⟨⟨v3, rfl, hv3⟩, hk3⟩; have hkd := (Kept.refl w2).drew.trans hk3; have x0 := hkd.cell p0; have x1 := hkd.cell p1; have x2 := hkd.cell p2; have HV3 := Lib.hid hv3; have HKD := Lib.hid hkd; have HR3 := Lib.hid (HM.out.1.kept hkd); have HF3 := Lib.hid (HM.out.2.1.kept hkd); clear hv3 hk3 hkd)
    | (go_at_call 91; (with_reducible refine (HAD.out _ _ (HM.out.2.2.trans HKD.out) HV3.out).mono ?_); rintro e w4 ⟨⟨v4, rfl, hv4⟩, hk4⟩; have hr4 := HR3.out.kept hk4; have HR4 := Lib.hid hr4; have HF4 := Lib.hid (HF3.out.kept hk4); have HK4 := Lib.hid ((HM.out.2.2.trans HKD.out).trans hk4); obtain ⟨u5, u6, rfl, k5, k6⟩ := hv4; obtain ⟨a5, c5, rfl⟩ := k5.shape; obtain ⟨a6, c6, rfl⟩ := k6.shape; have K5 := Lib.hid k5; have K6 := Lib.hid k6; have z0 := hr4.cell (i := 0) (by simp); have z1 := hr4.cell (i := 1) (by simp); have z2 := hr4.cell (i := 2) (by simp); have f0 := hr4.free 0; have f1 := hr4.free 1; have f2 := hr4.free 2; clear k5 k6 hr4 hk4))
  all_goals
    obtain ⟨y0, y1, y2, hra⟩ := rat_stored HR4.out HF4.out K5.out K6.out
    generalize R.num.length = n7 at *
    generalize R.den.length = n8 at *
    go_wp2
    refine bodyPost_ret (v := .agg #[.bool R.neg, .slice a5 n7 c5, .slice a6 n8 c6]) ?_ rfl ⟨⟨_, rfl, hra⟩, ?_⟩
    · simp [results, Tryz.results113, go_sem, y0, y1, y2]
    · exact ((HK4.out.store (by omega) _ _).store (by omega) _ _).store (by omega) _ _
set_option maxRecDepth 100000 in
set_option maxHeartbeats 4000000 in
theorem refcmp02_any (va vb : Value) (r s : Rw) (w : World) (ha : RatAt w va r) (hb : RatAt w vb s) (hr : r.Short 34359738368) (hs : s.Short 34359738368) : Calls Tryz.prog 185 #[va, vb] w fun e w' => e = .returned (.int .i64 (sgnR (ratOf r - ratOf s))) ∧ Kept w w' := by
  have HSU := Lib.hid (fun W (hk : Kept w W) => refsub02_any va vb r s W (ha.kept hk) (hb.kept hk) hr hs)
  have hsh : (canR (ratOf r - ratOf s)).Short 137438953472 := by
    have h := short_add ha.ok (canR_ok _) hr (short_neg hb.ok hs (by omega)) (by omega) (by omega)
    rw [ratOf_can, ← Rat.sub_eq_add_neg] at h
    exact ⟨Nat.le_trans h.1 (by omega), Nat.le_trans h.2 (by omega)⟩
  have HSG : Hid (∀ W v, RatAt W v (canR (ratOf r - ratOf s)) → Calls Tryz.prog 199 #[v] W fun e w' => e = .returned (.int .i64 (sgnR (ratOf r - ratOf s))) ∧ Kept W w') := Lib.hid fun W v hv => by
    have h := refsign_any v _ W hv hsh
    rw [ratOf_can] at h
    exact h
  obtain ⟨u1, u2, rfl, h1, h2⟩ := ha
  obtain ⟨u3, u4, rfl, h3, h4⟩ := hb
  obtain ⟨a1, c1, rfl⟩ := h1.shape
  obtain ⟨a2, c2, rfl⟩ := h2.shape
  obtain ⟨a3, c3, rfl⟩ := h3.shape
  obtain ⟨a4, c4, rfl⟩ := h4.shape
  generalize canR (ratOf r - ratOf s) = R at *
  generalize sgnR (ratOf r - ratOf s) = S at *
  generalize r.num.length = n1 at *
  generalize r.den.length = n2 at *
  generalize s.num.length = n3 at *
  generalize s.den.length = n4 at *
  generalize r.neg = neg1 at *
  generalize s.neg = neg2 at *
  have HK0 : Hid (Kept w ((w.alloc (.cells #[.bool neg1, .slice a1 n1 c1, .slice a2 n2 c2] 39)).alloc (.cells #[.bool neg2, .slice a3 n3 c3, .slice a4 n4 c4] 39))) := Lib.hid (((Kept.refl w).alloc _).alloc _)
  clear h1 h2 h3 h4 hr hs hsh
  go_enter Tryz.func185, Tryz.ntmps185
  go_wp2_with fail
  refine (HSU.out _ HK0.out).mono ?_
  rintro e w3 ⟨⟨v3, rfl, hv3⟩, hk3⟩
  have HV3 := Lib.hid hv3
  have HK3 := Lib.hid (HK0.out.trans hk3)
  clear hv3 hk3
  go_wp2_with fail
  refine (HSG.out _ _ HV3.out).mono ?_
  rintro e w4 ⟨rfl, hk4⟩
  have HK4 := Lib.hid (HK3.out.trans hk4)
  clear hk4
  go_wp2
  go_ret
  exact ⟨rfl, HK4.out⟩
theorem one_short : (canR ((1 : Int) : Rat)).Short 1 := by
  have h1 : (nw 1).length ≤ 1 := nw_len_lt.2 (by omega)
  have h := canR_short false (n := 1) (d := 1) (k := 1) (l := 1) (by omega) h1 h1
  rw [show sg false 1 = (1 : Int) from rfl, Rat.mkRat_one] at h
  exact h
set_option maxRecDepth 100000 in
set_option maxHeartbeats 4000000 in
theorem refprob_any (v : Value) (r : Rw) (w : World) (hv : RatAt w v r) (hs : r.Short 34359738368) : Calls Tryz.prog 133 #[v] w fun e w' => e = .returned (.bool (probR r)) ∧ Kept w w' := by
  have HVA := Lib.hid (fun W (hk : Kept w W) => refvalid_any v r W (hv.kept hk) ⟨Nat.le_trans hs.1 (by omega), Nat.le_trans hs.2 (by omega)⟩)
  have HSG := Lib.hid (fun W (hk : Kept w W) => refsign_any v r W (hv.kept hk) ⟨Nat.le_trans hs.1 (by omega), Nat.le_trans hs.2 (by omega)⟩)
  have HOF : Hid (∀ W, Calls Tryz.prog 112 #[.int .i64 1] W fun e w' => (∃ v', e = .returned v' ∧ RatAt w' v' (canR ((1 : Int) : Rat))) ∧ Kept W w') := Lib.hid fun W => refof_any 1 W (by omega)
  have HCM : Hid (∀ W u, Kept w W → RatAt W u (canR ((1 : Int) : Rat)) → Calls Tryz.prog 185 #[v, u] W fun e w' => e = .returned (.int .i64 (sgnR (ratOf r - ((1 : Int) : Rat)))) ∧ Kept W w') := Lib.hid fun W u hk hu => by
    have h := refcmp02_any v u r _ W (hv.kept hk) hu hs ⟨Nat.le_trans one_short.1 (by omega), Nat.le_trans one_short.2 (by omega)⟩
    rw [ratOf_can] at h
    exact h
  rw [prob_sgn hv.ok]
  obtain ⟨neg, num, den⟩ := r
  obtain ⟨u1, u2, rfl, h1, h2⟩ := hv
  simp only at h1 h2
  obtain ⟨a1, c1, rfl⟩ := h1.shape
  obtain ⟨a2, c2, rfl⟩ := h2.shape
  generalize sgnR (ratOf ⟨neg, num, den⟩ - ((1 : Int) : Rat)) = T at *
  generalize sgnR (ratOf ⟨neg, num, den⟩) = S at *
  generalize canR ((1 : Int) : Rat) = ONE at *
  generalize validR ⟨neg, num, den⟩ = vb at *
  simp only at HVA HSG HCM ⊢
  generalize num.length = n1 at *
  generalize den.length = n2 at *
  obtain ⟨w1, hw1⟩ : ∃ w1, w1 = w.alloc (.cells #[.bool neg, .slice a1 n1 c1, .slice a2 n2 c2] 39) := ⟨_, rfl⟩
  have HR : Hid (RowAt w1 w.heap.size 39 [.bool neg, .slice a1 n1 c1, .slice a2 n2 c2]) := Lib.hid (by rw [hw1]; exact RowAt.made w #[.bool neg, .slice a1 n1 c1, .slice a2 n2 c2] 39)
  have HK0 : Hid (Kept w w1) := Lib.hid (by rw [hw1]; exact (Kept.refl w).alloc _)
  have HW1 := Lib.hid hw1
  have q0 := HR.out.cell (i := 0) (by simp)
  have q1 := HR.out.cell (i := 1) (by simp)
  have q2 := HR.out.cell (i := 2) (by simp)
  simp only [List.getElem_cons_succ, List.getElem_cons_zero] at q0 q1 q2
  clear h1 h2 hs hw1
  cases vb with
  | false =>
    go_enter Tryz.func133, Tryz.ntmps133
    go_wp2_with fail
    rw [← HW1.out]
    go_region_with (go_at_call 198; (with_reducible refine (HVA.out _ HK0.out.drew).mono ?_); rintro e w3 ⟨rfl, hk3⟩; have HKD := Lib.hid (HK0.out.drew.trans hk3); clear hk3)
    all_goals
      go_wp2
      go_ret
      exact ⟨by first | rfl | (simp [Act.put]; done) | (simp [go_sem]; done), HKD.out⟩
  | true =>
    by_cases hS : 0 ≤ S
    · have dS : decide (0 ≤ S) = true := by simp; exact hS
      have dS' : decide (S ≥ 0) = true := by simp; exact hS
      go_enter Tryz.func133, Tryz.ntmps133
      go_wp2_with fail
      rw [← HW1.out]
      go_region_with (first
        | (go_at_call 198; (with_reducible refine (HVA.out _ HK0.out.drew).mono ?_); rintro e w3 ⟨rfl, hk3⟩; have hkd := (Kept.refl w1).drew.trans hk3; have x0 := hkd.cell q0; have x1 := hkd.cell q1; have x2 := hkd.cell q2; have HKD := Lib.hid (HK0.out.trans hkd); clear hk3 hkd)
        | (go_at_call 199; (with_reducible refine (HSG.out _ HKD.out).mono ?_); rintro e w4 ⟨rfl, hk4⟩; have y0 := hk4.cell x0; have y1 := hk4.cell x1; have y2 := hk4.cell x2; have HK4 := Lib.hid (HKD.out.trans hk4); clear hk4)
        | (go_at_call 112; (with_reducible refine (HOF.out _).mono ?_); rintro e w5 ⟨⟨v5, rfl, hv5⟩, hk5⟩; have z0 := hk5.cell y0; have z1 := hk5.cell y1; have z2 := hk5.cell y2; have HK5 := Lib.hid (HK4.out.trans hk5); have HV5 := Lib.hid hv5; clear hk5 hv5)
        | (go_at_call 185; (with_reducible refine (HCM.out _ _ HK5.out HV5.out).mono ?_); rintro e w6 ⟨rfl, hk6⟩; have HK6 := Lib.hid (HK5.out.trans hk6); clear hk6))
      all_goals
        go_wp2
        go_ret
        exact ⟨by first | (simp [hS, Act.put]; done) | (simp [hS, go_sem]; done), HK6.out⟩
    · have dS : decide (0 ≤ S) = false := by simp; omega
      have dS' : decide (S ≥ 0) = false := by simp; omega
      go_enter Tryz.func133, Tryz.ntmps133
      go_wp2_with fail
      rw [← HW1.out]
      go_region_with (first
        | (go_at_call 198; (with_reducible refine (HVA.out _ HK0.out.drew).mono ?_); rintro e w3 ⟨rfl, hk3⟩; have hkd := (Kept.refl w1).drew.trans hk3; have x0 := hkd.cell q0; have x1 := hkd.cell q1; have x2 := hkd.cell q2; have HKD := Lib.hid (HK0.out.trans hkd); clear hk3 hkd)
        | (go_at_call 199; (with_reducible refine (HSG.out _ HKD.out).mono ?_); rintro e w4 ⟨rfl, hk4⟩; have HK4 := Lib.hid (HKD.out.trans hk4); clear hk4))
      all_goals
        go_wp2
        go_ret
        exact ⟨by simp [Act.put]; omega, HK4.out⟩
end Go.Proofs.YtbkchheikkbebaaGreatDoor

/-
  Lists of fractions in memory; arguments that are read as such.
-/
namespace Go.Proofs.YtbkchheikkbebaaGreatDoor
open Go.RowKit Go.ChangeShapes Go.WideShapes Go.ChangeAt Go.Joins Go.Deep

/-- Words that can be read, however many. -/
def WdRaw (w : World) (v : Value) (xs : List Nat) : Prop :=
  ∃ (a : Option Addr) (c : Nat), v = .slice a xs.length c ∧ (xs.length ≤ c ∧ (a = none → c = 0)) ∧ xs.length ≤ 140737488355328 ∧ Wd xs ∧
    ∀ i (_ : i < xs.length), ∃ b o, a = some ⟨b, o, none⟩ ∧ w.cell? ⟨b, o + i, none⟩ = some (.int .u32 ((xs.getD i 0 : Nat) : Int))
theorem WdRaw.kept {w w' : World} {v : Value} {xs : List Nat} (h : WdRaw w v xs) (hk : Kept w w') : WdRaw w' v xs := by
  obtain ⟨a, c, h1, h2, h3, h4, h5⟩ := h
  exact ⟨a, c, h1, h2, h3, h4, fun i hi => let ⟨b, o, h6, h7⟩ := h5 i hi; ⟨b, o, h6, hk.cell h7⟩⟩
theorem WdRaw.small {w : World} {v : Value} {xs : List Nat} (h : WdRaw w v xs) (hl : xs.length ≤ 1099511627776) : WdsAt w v xs := by
  obtain ⟨a, c, h1, h2, _, h4, h5⟩ := h
  exact ⟨a, c, h1, h2, hl, h4, h5⟩
theorem WdRaw.shape {w : World} {v : Value} {xs : List Nat} (h : WdRaw w v xs) : ∃ a c, v = .slice a xs.length c ∧ xs.length ≤ 140737488355328 := by
  obtain ⟨a, c, h1, _, h3, _⟩ := h
  exact ⟨a, c, h1, h3⟩
theorem WdRaw.nil (w : World) : WdRaw w (.slice none 0 0) [] := ⟨none, 0, rfl, ⟨by simp, fun _ => rfl⟩, by simp, Wd.nil, fun i h => by simp at h⟩
/-- A list of fractions. -/
def RatsRaw (w : World) (v : Value) (ps : List Rw) : Prop :=
  ∃ (a : Option Addr) (c : Nat), v = .slice a ps.length c ∧ (ps.length ≤ c ∧ (a = none → c = 0)) ∧ ps.length ≤ 140737488355328 ∧
    ∀ i (h : i < ps.length), ∃ b o u1 u2, a = some ⟨b, o, none⟩ ∧ w.rangeAt b (o + i * 3) [.bool ps[i].neg, u1, u2] ∧ WdRaw w u1 ps[i].num ∧ WdRaw w u2 ps[i].den
def RatsAt (w : World) (v : Value) (ps : List Rw) : Prop :=
  ∃ (a : Option Addr) (c : Nat), v = .slice a ps.length c ∧ (ps.length ≤ c ∧ (a = none → c = 0)) ∧ ps.length ≤ 140737488355328 ∧
    ∀ i (h : i < ps.length), ∃ b o u1 u2, a = some ⟨b, o, none⟩ ∧ w.rangeAt b (o + i * 3) [.bool ps[i].neg, u1, u2] ∧ WdsAt w u1 ps[i].num ∧ WdsAt w u2 ps[i].den
theorem range_same {w w' : World} {b o : Nat} {cs : List Value} (h : w.rangeAt b o cs) (hk : Kept w w') : w'.rangeAt b o cs := fun j v hj => hk.cell (h j v hj)
theorem RatsRaw.kept {w w' : World} {v : Value} {ps : List Rw} (h : RatsRaw w v ps) (hk : Kept w w') : RatsRaw w' v ps := by
  obtain ⟨a, c, h1, h2, h3, h4⟩ := h
  exact ⟨a, c, h1, h2, h3, fun i hi => let ⟨b, o, u1, u2, h5, h6, h7, h8⟩ := h4 i hi; ⟨b, o, u1, u2, h5, range_same h6 hk, h7.kept hk, h8.kept hk⟩⟩
theorem RatsAt.kept {w w' : World} {v : Value} {ps : List Rw} (h : RatsAt w v ps) (hk : Kept w w') : RatsAt w' v ps := by
  obtain ⟨a, c, h1, h2, h3, h4⟩ := h
  exact ⟨a, c, h1, h2, h3, fun i hi => let ⟨b, o, u1, u2, h5, h6, h7, h8⟩ := h4 i hi; ⟨b, o, u1, u2, h5, range_same h6 hk, h7.kept hk, h8.kept hk⟩⟩
theorem RatsRaw.small {w : World} {v : Value} {ps : List Rw} (h : RatsRaw w v ps) (hs : ∀ r ∈ ps, r.Short 1099511627776) : RatsAt w v ps := by
  obtain ⟨a, c, h1, h2, h3, h4⟩ := h
  exact ⟨a, c, h1, h2, h3, fun i hi => let ⟨b, o, u1, u2, h5, h6, h7, h8⟩ := h4 i hi; ⟨b, o, u1, u2, h5, h6, h7.small (hs _ (List.getElem_mem _)).1, h8.small (hs _ (List.getElem_mem _)).2⟩⟩
theorem RatsAt.shape {w : World} {v : Value} {ps : List Rw} (h : RatsAt w v ps) : ∃ a c, v = .slice a ps.length c := by obtain ⟨a, c, h1, _⟩ := h; exact ⟨a, c, h1⟩
theorem RatsAt.len {w : World} {v : Value} {ps : List Rw} (h : RatsAt w v ps) : ps.length ≤ 140737488355328 := by obtain ⟨a, c, _, _, h1, _⟩ := h; exact h1
theorem RatsAt.get {w : World} {a : Option Addr} {n c : Nat} {ps : List Rw} (h : RatsAt w (.slice a n c) ps) (i : Nat) (hi : i < ps.length) : ∃ b o u1 u2, a = some ⟨b, o, none⟩ ∧ w.rangeAt b (o + i * 3) [.bool (ps.getD i default).neg, u1, u2] ∧ WdsAt w u1 (ps.getD i default).num ∧ WdsAt w u2 (ps.getD i default).den := by
  obtain ⟨a', c', h1, _, _, h4⟩ := h
  injection h1 with e1 e2 e3
  subst e1
  have e : ps.getD i default = ps[i] := by simp [List.getD_eq_getElem?_getD, hi]
  rw [e]
  exact h4 i hi
theorem cells_rat : Tryz.prog.cellsOf 39 = 3 := by kernel_rfl
theorem cells_words : Tryz.prog.cellsOf 37 = 1 := by kernel_rfl
theorem cells_u32 : Tryz.prog.cellsOf 48 = 1 := by kernel_rfl
theorem cells_bool : Tryz.prog.cellsOf 4 = 1 := by kernel_rfl
theorem bytes_rat : Tryz.prog.bytesOf 39 = 56 := by kernel_rfl
theorem bytes_u32 : Tryz.prog.bytesOf 48 = 4 := by kernel_rfl
theorem bounds_u32 {n : Int} (h : (Lit.int .u32 n).wf = true) : 0 ≤ n ∧ n < 4294967296 := by
  simp [Lit.wf, IntKind.min, IntKind.max, IntKind.signed, IntKind.bits] at h
  omega
section
variable {H : Type} {enc : TypeId × Value → H} {W : World} {base : Nat}
/-- Words of a slice, read. -/
theorem words_open {fuel : Nat} {cs : List Value} {x : DataW H × List MemPlace} (hb : ∀ n ∈ x.1.weights Tryz.prog 37, n ≤ reachBytes)
    (h : DataW.trod enc Tryz.prog W base (fun _ => true) true fuel 37 cs = some x) : ∃ u xs, cs = [u] ∧ WdRaw W u xs := by
  rcases open_ints Tryz.underlying37 Tryz.underlying48 cells_u32 h with ⟨rfl, rfl⟩ | ⟨a, len, cap, zs, rfl, _, hl, hm, hz, rfl, hcell, hwz⟩
  · exact ⟨_, [], rfl, WdRaw.nil _⟩
  · simp only [if_true] at hz
    have hbb := hb ((zs.take len).length * 4 + (zs.drop len).length * 4) (by
      simp only [DataW.weights, Tryz.underlying37, bytes_u32, List.mem_cons]
      exact .inl (by simp [lits]; omega))
    simp [reachBytes] at hbb
    have hlen : ((zs.take len).map Int.toNat).length = len := by simp; omega
    refine ⟨_, (zs.take len).map Int.toNat, rfl, some a, cap, by rw [hlen], ⟨by rw [hlen]; exact hl, fun h => by cases h⟩, by rw [hlen]; omega, fun z hz => ?_, fun i hi => ?_⟩
    · obtain ⟨y, hy, rfl⟩ := List.mem_map.1 hz
      have := bounds_u32 (hwz y (List.mem_of_mem_take hy))
      omega
    · rw [hlen] at hi
      have hc := hcell i (by omega)
      obtain ⟨b, o, spot⟩ := a
      have hspot : spot = none := World.cell?_spot (hcell 0 (by omega))
      subst hspot
      refine ⟨b, o, rfl, ?_⟩
      have e : ((((zs.take len).map Int.toNat).getD i 0 : Nat) : Int) = zs.getD i 0 := by
        have h1 : i < zs.length := by omega
        have h2 := bounds_u32 (hwz zs[i] (List.getElem_mem _))
        simp [List.getD_eq_getElem?_getD, h1, hi]
        omega
      rw [e, ← hc]
      congr 1
      by_cases h0 : i = 0
      · subst h0; rfl
      · simp [Addr.add, h0]
set_option maxRecDepth 100000 in
theorem rats_open {fuel : Nat} {cs : List Value} {x : DataW H × List MemPlace} (hb : ∀ n ∈ x.1.weights Tryz.prog 35, n ≤ reachBytes)
    (h : DataW.trod enc Tryz.prog W base (fun _ => true) true fuel 35 cs = some x) : ∃ u ps, cs = [u] ∧ RatsRaw W u ps := by
  rcases open_slice Tryz.underlying35 h with ⟨rfl, rfl⟩ | ⟨a, len, cap, m, n, D, Pl, rfl, _, hl, hm, hmm, rfl, hx⟩
  · exact ⟨_, [], rfl, none, 0, rfl, ⟨by simp, fun _ => rfl⟩, by simp, fun i h => by simp at h⟩
  · simp only [if_true] at hmm
    have hmc := hmm.symm
    subst hmc
    have hbb := hb (cap * 56) (by
      simp only [DataW.weights, Tryz.underlying35, bytes_rat, List.mem_cons]
      refine .inl ?_
      simp; omega)
    simp [reachBytes] at hbb
    have each : ∀ i, i < len → ∃ y : Rw, ∃ b o u1 u2, a = ⟨b, o, none⟩ ∧ W.rangeAt b (o + i * 3) [.bool y.neg, u1, u2] ∧ WdRaw W u1 y.num ∧ WdRaw W u2 y.den := by
      intro i hi
      obtain ⟨cs', hc, ht⟩ := hx i (by omega)
      rw [cells_rat] at hc
      obtain ⟨_, hcl, hat⟩ := World.cells?_some hc
      obtain ⟨y0, y1, y2, n', hy, hlen, g0, g1, g2⟩ := trod_struct3 Tryz.underlying39 ht
      match cs', hcl with
      | [c0, c1, c2], _ =>
        have q0 := hat 0 (by omega)
        have q1 := hat 1 (by omega)
        have q2 := hat 2 (by omega)
        simp only [List.getElem?_cons_zero, List.getElem?_cons_succ] at q0 q1 q2
        have k0 : Tryz.prog.cellsOf 4 = 1 := cells_bool
        have k2 : Tryz.prog.cellsOf 37 = 1 := cells_words
        simp only [k0, k2, List.drop_zero, List.drop_succ_cons, List.take_succ_cons, List.take_zero] at g0 g1 g2
        obtain ⟨ng, e0, hy0⟩ := DataW.trod_bool Tryz.underlying4 g0
        simp at e0
        subst e0
        have hdi : D i = .agg [y0.1, y1.1, y2.1] := by simpa using congrArg Prod.fst hy
        obtain ⟨u1, xs1, e1, hu1⟩ := words_open (fun n hn => hb n (by
          simp only [DataW.weights, Tryz.underlying35, List.mem_cons, List.mem_append]
          refine .inr (.inl (weightsAll_mem (d := D i) (List.mem_map.2 ⟨i, by simpa using hi, rfl⟩) n ?_))
          rw [hdi]
          simp only [DataW.weights, Tryz.underlying39]
          simp only [List.map_cons, DataW.weightsEach, List.mem_append]
          exact .inr (.inl hn))) g1
        obtain ⟨u2, xs2, e2, hu2⟩ := words_open (fun n hn => hb n (by
          simp only [DataW.weights, Tryz.underlying35, List.mem_cons, List.mem_append]
          refine .inr (.inl (weightsAll_mem (d := D i) (List.mem_map.2 ⟨i, by simpa using hi, rfl⟩) n ?_))
          rw [hdi]
          simp only [DataW.weights, Tryz.underlying39]
          simp only [List.map_cons, DataW.weightsEach, List.mem_append]
          exact .inr (.inr (.inl hn)))) g2
        simp at e1 e2
        subst e1 e2
        obtain ⟨b, o, spot⟩ := a
        have hspot : spot = none := by
          obtain ⟨cs0, hc0, _⟩ := hx 0 (by omega)
          rw [cells_rat] at hc0
          obtain ⟨_, hcl0, hat0⟩ := World.cells?_some hc0
          have h1 := hat0 0 (by omega)
          rw [List.getElem?_eq_getElem (by omega)] at h1
          exact World.cell?_spot (a := ⟨b, o, spot⟩) (by simpa [Addr.add] using h1)
        subst hspot
        refine ⟨⟨ng, xs1, xs2⟩, b, o, c1, c2, rfl, ?_, hu1, hu2⟩
        intro j v hj
        match j, hj with
        | 0, hj => simp at hj; subst hj; rw [← q0, addP, addP]
        | 1, hj => simp at hj; subst hj; rw [← q1, addP, addP]
        | 2, hj => simp at hj; subst hj; rw [← q2, addP, addP]
    obtain ⟨g, hg⟩ := choose_lt each
    refine ⟨_, (List.range len).map g, rfl, some a, cap, by simp, ⟨by simp; omega, fun h => by cases h⟩, by simp; omega, fun i hi => ?_⟩
    simp only [List.length_map, List.length_range] at hi
    obtain ⟨b, o, u1, u2, rfl, h1, h2, h3⟩ := hg i hi
    exact ⟨b, o, u1, u2, rfl, by simpa using h1, by simpa using h2, by simpa using h3⟩
end
end Go.Proofs.YtbkchheikkbebaaGreatDoor

/-
  Walk: faultlinelaw35.Large. Printed by gen_A44.py.
-/
namespace Go.Proofs.YtbkchheikkbebaaGreatDoor
open Go.RowKit

/-- What Large's answer says. -/
def LargeV (u : Value) (ps : List Rw) : Prop := ∃ b, u = .bool b ∧ (b = false → ps.length ≤ 30 ∧ ∀ r ∈ ps, r.Short 3)
set_option maxRecDepth 100000 in
set_option maxHeartbeats 4000000 in
theorem large_any (v : Value) (ps : List Rw) (w : World) (hv : RatsRaw w v ps) :
    Calls Tryz.prog 27 #[v] w fun e w' => (∃ u, e = .returned u ∧ LargeV u ps) ∧ Kept w w' := by
  obtain ⟨a, c, rfl, ⟨hc, _⟩, hl, hx⟩ := hv
  obtain ⟨n, hn⟩ : ∃ n, n = ps.length := ⟨_, rfl⟩
  have hn9 : n ≤ 140737488355328 := by omega
  rw [← hn]
  have HX := Lib.hid hx
  have HN := Lib.hid hn
  clear hx hn hl hc
  go_enter Tryz.func27, Tryz.ntmps27
  go_wp2_with fail
  go_loopg [3, 8] n (fun kx s3 s8 wr => ∃ k t : Nat, k ≤ n ∧ s8 = .int .i64 k ∧ n - k ≤ kx ∧ s3 = .int .i64 t ∧ t ≤ 3 * k ∧ Hid (∀ r ∈ ps.take k, r.Short 3) ∧ Hid (Kept w wr))
  case atStart => exact ⟨0, 0, Nat.zero_le _, rfl, by omega, rfl, by omega, Lib.hid (by simp), Lib.hid (Kept.refl _)⟩
  case round =>
    obtain ⟨k, t, hk, rfl, hkx, rfl, ht, HF, HK⟩ := hrel
    by_cases hlt : k < n
    · have hkl : k < ps.length := by have := HN.out; omega
      obtain ⟨b, o, u1, u2, rfl, hrg, hw1, hw2⟩ := HX.out k hkl
      obtain ⟨r, hr⟩ : ∃ r, r = ps[k] := ⟨_, rfl⟩
      rw [← hr] at hrg hw1 hw2
      have HR := Lib.hid hr
      have HRG0 := range_same hrg HK.out
      have hw2' := hw2.kept HK.out
      obtain ⟨a1, c1, rfl, hl1⟩ := hw1.shape
      obtain ⟨a2, c2, rfl, hl2⟩ := hw2.shape
      have HNX : Hid (r.Short 3 → ∀ x ∈ ps.take (k + 1), x.Short 3) := Lib.hid fun h x hx => by
        rw [List.take_succ_eq_append_getElem hkl] at hx
        rcases List.mem_append.1 hx with hx | hx
        · exact HF.out x hx
        · simp at hx; rw [hx, ← HR.out]; exact h
      have HSH : Hid (r.num.length ≤ 3 → r.den.length ≤ 3 → r.Short 3) := Lib.hid fun h1 h2 => ⟨h1, h2⟩
      obtain ⟨n1, hn1⟩ : ∃ n1, n1 = r.num.length := ⟨_, rfl⟩
      obtain ⟨n2, hn2⟩ : ∃ n2, n2 = r.den.length := ⟨_, rfl⟩
      rw [← hn1] at HRG0 hl1 HSH
      rw [← hn2] at HRG0 hl2 HSH hw2'
      have HRG : Hid (wr.rangeAt b (o + k * 3) [.bool r.neg, .slice a1 n1 c1, .slice a2 n2 c2]) := Lib.hid HRG0
      have HK2 : Hid (Kept w (wr.alloc (.cells #[.bool r.neg, .slice a1 n1 c1, .slice a2 n2 c2] 39))) := Lib.hid (HK.out.alloc _)
      have HW2 := Lib.hid hw2'
      have HN2 := Lib.hid hn2
      have hkn : (k : Int) < (n : Int) := by omega
      clear hr hrg hw1 hw2 hw2' HRG0 hn1 hn2
      by_cases h1 : 3 < n1
      · have g1 : (3 : Int) < (n1 : Int) := by omega
        have d1 : decide ((3 : Int) < (n1 : Int)) = true := decide_eq_true g1
        go_wp2_with (with_reducible refine wpList_load_mid rfl 39 _ rfl b (o + k * 3) rfl _ _ HRG.out Tryz.underlying39 rfl (by kernel_rfl) ?_)
        go_ret
        exact ⟨⟨_, rfl, true, rfl, fun h => by cases h⟩, HK2.out⟩
      · have g1 : ¬ (3 : Int) < (n1 : Int) := by omega
        have d1 : decide ((3 : Int) < (n1 : Int)) = false := decide_eq_false g1
        by_cases h2 : 3 < n2
        · have g2 : (3 : Int) < (n2 : Int) := by omega
          have d2 : decide ((3 : Int) < (n2 : Int)) = true := decide_eq_true g2
          go_wp2_with (with_reducible refine wpList_load_mid rfl 39 _ rfl b (o + k * 3) rfl _ _ HRG.out Tryz.underlying39 rfl (by kernel_rfl) ?_)
          go_ret
          exact ⟨⟨_, rfl, true, rfl, fun h => by cases h⟩, HK2.out⟩
        · have g2 : ¬ (3 : Int) < (n2 : Int) := by omega
          have d2 : decide ((3 : Int) < (n2 : Int)) = false := decide_eq_false g2
          have HS3 := Lib.hid (HNX.out (HSH.out (by omega) (by omega)))
          obtain ⟨mx, hmx⟩ : ∃ mx, mx = max n1 n2 := ⟨_, rfl⟩
          have emx : max (n1 : Int) (n2 : Int) = (mx : Int) := by omega
          obtain ⟨t2, ht2⟩ : ∃ t2, t2 = t + mx := ⟨_, rfl⟩
          have et2 : (t : Int) + (mx : Int) = (t2 : Int) := by omega
          have ht29 : t2 ≤ 3 * (k + 1) := by omega
          have ht28 : t2 ≤ 422212465065987 := by omega
          clear hmx ht2
          by_cases h3 : 1 < n1
          · have g3 : (1 : Int) < (n1 : Int) := by omega
            have d3 : decide ((1 : Int) < (n1 : Int)) = true := decide_eq_true g3
            go_wp2_with (with_reducible refine wpList_load_mid rfl 39 _ rfl b (o + k * 3) rfl _ _ HRG.out Tryz.underlying39 rfl (by kernel_rfl) ?_)
            go_roundg (n - (k + 1))
            case measure => omega
            case rel => exact ⟨k + 1, t2, by omega, by go_num, Nat.le_refl _, rfl, ht29, HS3, HK2⟩
          · have g3 : ¬ (1 : Int) < (n1 : Int) := by omega
            have d3 : decide ((1 : Int) < (n1 : Int)) = false := decide_eq_false g3
            by_cases h4 : 1 < n2
            · have g4 : (1 : Int) < (n2 : Int) := by omega
              have d4 : decide ((1 : Int) < (n2 : Int)) = true := decide_eq_true g4
              go_wp2_with (with_reducible refine wpList_load_mid rfl 39 _ rfl b (o + k * 3) rfl _ _ HRG.out Tryz.underlying39 rfl (by kernel_rfl) ?_)
              go_roundg (n - (k + 1))
              case measure => omega
              case rel => exact ⟨k + 1, t2, by omega, by go_num, Nat.le_refl _, rfl, ht29, HS3, HK2⟩
            · have g4 : ¬ (1 : Int) < (n2 : Int) := by omega
              have d4 : decide ((1 : Int) < (n2 : Int)) = false := decide_eq_false g4
              by_cases h5 : n2 = 1
              · have e5 : ((n2 : Int) == 1) = true := by simp; omega
                have hden : 0 < r.den.length := by have := HN2.out; omega
                obtain ⟨a2', c2', h6, h7, _, _, h8⟩ := HW2.out
                injection h6 with h9 h10 h11
                obtain ⟨b2, o2, h12, h13⟩ := h8 0 hden
                rw [← h9] at h12
                subst h12
                obtain ⟨y, hy⟩ : ∃ y, y = r.den.getD 0 0 := ⟨_, rfl⟩
                rw [← hy, Nat.add_zero] at h13
                have h14 := ((Kept.refl wr).alloc (.cells #[.bool r.neg, .slice a1 n1 c1, .slice (some ⟨b2, o2, none⟩) n2 c2] 39)).cell h13
                have q0 : (0 : Int) < (n2 : Int) := by omega
                have q0' : 0 < n2 := by omega
                clear h7 h8 h9 h10 h11 h13 hy h5
                by_cases h15 : 1024 ≤ y
                · have d5 : decide ((1024 : Int) ≤ (y : Int)) = true := decide_eq_true (by omega)
                  have g5 : (1024 : Int) ≤ (y : Int) := by omega
                  go_wp2_with (with_reducible refine wpList_load_mid rfl 39 _ rfl b (o + k * 3) rfl _ _ HRG.out Tryz.underlying39 rfl (by kernel_rfl) ?_)
                  go_roundg (n - (k + 1))
                  case measure => omega
                  case rel => exact ⟨k + 1, t2, by omega, by go_num, Nat.le_refl _, rfl, ht29, HS3, HK2⟩
                · have d5 : decide ((1024 : Int) ≤ (y : Int)) = false := decide_eq_false (by omega)
                  have g5 : ¬ (1024 : Int) ≤ (y : Int) := by omega
                  go_wp2_with (with_reducible refine wpList_load_mid rfl 39 _ rfl b (o + k * 3) rfl _ _ HRG.out Tryz.underlying39 rfl (by kernel_rfl) ?_)
                  go_roundg (n - (k + 1))
                  case measure => omega
                  case rel => exact ⟨k + 1, t, by omega, by go_num, Nat.le_refl _, rfl, by omega, HS3, HK2⟩
              · have e5 : ((n2 : Int) == 1) = false := by simp; omega
                go_wp2_with (with_reducible refine wpList_load_mid rfl 39 _ rfl b (o + k * 3) rfl _ _ HRG.out Tryz.underlying39 rfl (by kernel_rfl) ?_)
                go_roundg (n - (k + 1))
                case measure => omega
                case rel => exact ⟨k + 1, t, by omega, by go_num, Nat.le_refl _, rfl, by omega, HS3, HK2⟩
    · have hke : k = n := by omega
      have HALL : Hid (∀ r ∈ ps, r.Short 3) := Lib.hid (by have := HF.out; rwa [List.take_of_length_le (by have := HN.out; omega)] at this)
      have hkn : ¬ (k : Int) < (n : Int) := by omega
      by_cases h30 : 30 < n
      · have g30 : (30 : Int) < (n : Int) := by omega
        have d30 : decide ((30 : Int) < (n : Int)) = true := decide_eq_true g30
        go_wp2
        go_ret
        exact ⟨⟨_, rfl, true, rfl, fun h => by cases h⟩, HK.out⟩
      · have g30 : ¬ (30 : Int) < (n : Int) := by omega
        have d30 : decide ((30 : Int) < (n : Int)) = false := decide_eq_false g30
        go_wp2
        go_ret
        exact ⟨⟨_, rfl, _, rfl, fun _ => ⟨by have := HN.out; omega, HALL.out⟩⟩, HK.out⟩
end Go.Proofs.YtbkchheikkbebaaGreatDoor

/-
  Walks: slices.ContainsFunc over fractions; truncate.bad, faultlineref35.Bad.
-/
namespace Go.Proofs.YtbkchheikkbebaaGreatDoor
open Go.RowKit

def DecidesQ (g : Nat) (lb : Array Value) (p : Rw → Bool) (w : World) : Prop :=
  ∀ (W : World) (u : Value) (x : Rw), Kept w W → RatAt W u x → x.Short 34359738368 → Calls Tryz.prog g (#[u] ++ lb) W fun e W' => e = .returned (.bool (p x)) ∧ Kept W W'
/-- Whether one of some fractions is no probability. -/
def badR (ps : List Rw) : Bool := ps.any fun r => !probR r
set_option maxRecDepth 100000 in
set_option maxHeartbeats 2000000 in
theorem refbad_any (v : Value) (ps : List Rw) (w : World) (hv : RatsAt w v ps) (hs : ∀ x ∈ ps, x.Short 34359738368) : Calls Tryz.prog 78 #[v] w fun e w' => e = .returned (.bool (badR ps)) ∧ Kept w w' := by
  obtain ⟨a, c, rfl, ⟨hc, _⟩, hl, hx⟩ := hv
  obtain ⟨n, hn⟩ : ∃ n, n = ps.length := ⟨_, rfl⟩
  have hbig : n ≤ 140737488355328 := by omega
  rw [← hn]
  have HX := Lib.hid hx
  have HN := Lib.hid hn
  have HLT := Lib.hid hs
  clear hx hn hl hc hs
  go_enter Tryz.func78, Tryz.ntmps78
  go_wp2_with fail
  go_loopg [7] n (fun kx i wr => ∃ k : Nat, k ≤ n ∧ i = .int .i64 k ∧ n - k ≤ kx ∧ Hid (∀ x ∈ ps.take k, probR x = true) ∧ Hid (Kept w wr))
  case atStart => exact ⟨0, Nat.zero_le _, rfl, by omega, Lib.hid (by simp), Lib.hid (Kept.refl _)⟩
  case round =>
    obtain ⟨k, hk, rfl, hkx, HF, HK⟩ := hrel
    by_cases hlt : k < n
    · have hkl : k < ps.length := by have := HN.out; omega
      obtain ⟨b, o, u1, u2, rfl, hrg, hw1, hw2⟩ := HX.out k hkl
      have hrg2 := range_same hrg HK.out
      have hxl := HLT.out ps[k] (List.getElem_mem _)
      obtain ⟨x, hxx⟩ : ∃ x, x = ps[k] := ⟨_, rfl⟩
      rw [← hxx] at hrg2 hxl hw1 hw2
      have HXX := Lib.hid hxx
      obtain ⟨a1, c1, rfl⟩ := hw1.shape
      obtain ⟨a2, c2, rfl⟩ := hw2.shape
      have HC : Hid (∀ W, Kept w W → Calls Tryz.prog 133 #[.agg #[.bool x.neg, .slice a1 x.num.length c1, .slice a2 x.den.length c2]] W fun e W' => e = .returned (.bool (probR x)) ∧ Kept W W') := Lib.hid fun W hk => refprob_any _ x W ⟨_, _, rfl, hw1.kept hk, hw2.kept hk⟩ hxl
      generalize x.num.length = n1 at *
      generalize x.den.length = n2 at *
      have HRG : Hid (wr.rangeAt b (o + k * 3) [.bool x.neg, .slice a1 n1 c1, .slice a2 n2 c2]) := Lib.hid hrg2
      have hkn : (k : Int) < (n : Int) := by omega
      clear hrg hrg2 hxx hxl hw1 hw2
      cases hq : probR x with
      | false =>
        rw [hq] at HC
        have HQ := Lib.hid hq
        clear hq
        go_wp2_with (first | (with_reducible refine wpList_load_mid rfl 39 _ rfl b (o + k * 3) rfl _ _ HRG.out Tryz.underlying39 rfl (by kernel_rfl) ?_) | (go_at_call 133; refine (HC.out _ (HK.out.alloc _)).mono ?_; rintro e w' ⟨rfl, hK2⟩))
        go_ret
        have hb : badR ps = true := List.any_eq_true.2 ⟨x, by rw [HXX.out]; exact List.getElem_mem _, by rw [HQ.out]; rfl⟩
        exact ⟨by rw [hb]; rfl, (HK.out.alloc _).trans hK2⟩
      | true =>
        rw [hq] at HC
        have HQ := Lib.hid hq
        clear hq
        go_wp2_with (first | (with_reducible refine wpList_load_mid rfl 39 _ rfl b (o + k * 3) rfl _ _ HRG.out Tryz.underlying39 rfl (by kernel_rfl) ?_) | (go_at_call 133; refine (HC.out _ (HK.out.alloc _)).mono ?_; rintro e w' ⟨rfl, hK2⟩))
        go_roundg (n - (k + 1))
        case measure => omega
        case rel =>
          refine ⟨k + 1, by omega, by go_num, Nat.le_refl _, Lib.hid ?_, Lib.hid ((HK.out.alloc _).trans hK2)⟩
          intro y hy
          rw [List.take_succ_eq_append_getElem hkl] at hy
          rcases List.mem_append.1 hy with hy | hy
          · exact HF.out y hy
          · simp at hy; rw [hy, ← HXX.out]; exact HQ.out
    · have hh := HF.out
      rw [List.take_of_length_le (by have := HN.out; omega)] at hh
      have HB : Hid (badR ps = false) := Lib.hid (by unfold badR; rw [List.any_eq_false]; intro y hy; simp [hh y hy])
      have hkn : ¬ (k : Int) < (n : Int) := by omega
      clear hh
      go_wp2
      go_ret
      exact ⟨by rw [HB.out]; rfl, HK.out⟩
end Go.Proofs.YtbkchheikkbebaaGreatDoor

/-
  Elements of sets: sets.Has, Greatest and the reference's Has, Elements, Greatest.
-/
namespace Go.Proofs.YtbkchheikkbebaaGreatDoor
open Go.RowKit

/-- The elements of a set, ascending. -/
def elemsK (s : Nat) : List Nat := (List.range 24).filter fun i => s.testBit i
/-- The greatest element, or -1. -/
def gtK (s : Nat) : Int := (Lib.bitLen s : Int) - 1
theorem elems_lt {s i : Nat} (h : i ∈ elemsK s) : i < 24 ∧ s.testBit i = true := by
  have := List.mem_filter.1 h
  exact ⟨by simpa using this.1, this.2⟩
theorem bitLen_topA {x n : Nat} (h1 : 2 ^ n ≤ x) (h2 : x < 2 ^ (n + 1)) (hn : n < 60) : Lib.bitLen x = n + 1 := by
  have h64 : x < 2 ^ 64 := Nat.lt_of_lt_of_le h2 (Nat.pow_le_pow_right (by omega) (by omega))
  have h3 := Lib.bitLen_le x (n + 1) (by omega) h2
  have h4 := bitLen_lt h64
  have h5 : n < Lib.bitLen x := (Nat.pow_lt_pow_iff_right (by omega : 1 < 2)).1 (Nat.lt_of_le_of_lt h1 h4)
  omega
theorem last_fold (l : List Nat) (x : Nat) : ∀ a : Int, (l ++ [x]).foldl (fun (_ : Int) (i : Nat) => (i : Int)) a = (x : Int) := by
  intro a; rw [List.foldl_append]; rfl
theorem last_elems (s : Nat) : ∀ n, n ≤ 24 → ((List.range n).filter fun i => s.testBit i).foldl (fun (_ : Int) (i : Nat) => (i : Int)) (-1) = (Lib.bitLen (s % 2 ^ n) : Int) - 1 := by
  intro n
  induction n with
  | zero => intro _; simp [Nat.mod_one]; rfl
  | succ n ih =>
    intro hn
    have ih := ih (by omega)
    rw [List.range_succ, List.filter_append, bit_step]
    have hb : s / 2 ^ n % 2 = if s.testBit n then 1 else 0 := by
      rw [Nat.testBit_eq_decide_div_mod_eq]
      have : s / 2 ^ n % 2 < 2 := Nat.mod_lt _ (by omega)
      by_cases h : s / 2 ^ n % 2 = 1
      · simp [h]
      · simp [h]; omega
    cases ht : s.testBit n with
    | false =>
      rw [ht] at hb
      simp only [List.filter_cons, ht, List.filter_nil, Bool.false_eq_true, if_false, List.append_nil] at hb ⊢
      rw [hb, Nat.zero_mul, Nat.add_zero]
      exact ih
    | true =>
      rw [ht] at hb
      simp only [List.filter_cons, ht, List.filter_nil, if_true] at hb ⊢
      rw [last_fold, hb, Nat.one_mul]
      have h1 : s % 2 ^ n < 2 ^ n := Nat.mod_lt _ (Nat.two_pow_pos n)
      rw [bitLen_topA (n := n) (by omega) (by rw [Nat.pow_succ]; omega) (by omega)]
      omega
theorem last_elem {s : Nat} (hs : s < 16777216) : (elemsK s).foldl (fun (_ : Int) (i : Nat) => (i : Int)) (-1) = gtK s := by
  have h := last_elems s 24 (Nat.le_refl _)
  have e : (2 : Nat) ^ 24 = 16777216 := rfl
  rw [e, Nat.mod_eq_of_lt hs] at h
  exact h
theorem bit_gt {s i : Nat} (hs : s < 16777216) (h : s.testBit i = true) : (i : Int) ≤ gtK s := by
  unfold gtK
  have h1 : 2 ^ i ≤ s := Nat.ge_two_pow_of_testBit h
  have h64 : s < 2 ^ 64 := Nat.lt_of_lt_of_le hs (by decide)
  have h4 := bitLen_lt h64
  have h5 : i < Lib.bitLen s := (Nat.pow_lt_pow_iff_right (by omega : 1 < 2)).1 (Nat.lt_of_le_of_lt h1 h4)
  omega
theorem bit_high {s i : Nat} (hs : s < 16777216) (hi : 24 ≤ i) : s.testBit i = false := by
  cases h : s.testBit i with
  | false => rfl
  | true =>
    exfalso
    have h1 : 2 ^ i ≤ s := Nat.ge_two_pow_of_testBit h
    have h2 : 2 ^ 24 ≤ 2 ^ i := Nat.pow_le_pow_right (by omega) hi
    have e : (2 : Nat) ^ 24 = 16777216 := rfl
    omega
set_option maxRecDepth 100000 in
theorem hasS_any (c i : Nat) (hc : c < 16777216) (w : World) : Calls Tryz.prog 200 #[.int .i64 c, .int .i64 i] w fun e w' => e = .returned (.bool (c.testBit i)) ∧ w' = w := by
  by_cases hi : i < 24
  · have e := bit_val c i hc
    have h1 : (0 : Int) ≤ (i : Int) := by omega
    have h2 : (i : Int) < 24 := by omega
    have E := Lib.hid e
    clear e hc
    go_enter Tryz.func200, Tryz.ntmps200
    go_wp2
    go_ret
    exact ⟨by rw [← E.out]; rfl, rfl⟩
  · rw [bit_high hc (by omega)]
    have h1 : (0 : Int) ≤ (i : Int) := by omega
    have h2 : ¬ (i : Int) < 24 := by omega
    have d2 : decide ((i : Int) < 24) = false := decide_eq_false h2
    clear hc hi
    go_enter Tryz.func200, Tryz.ntmps200
    go_wp2
    go_ret
    exact ⟨by first | rfl | simp, rfl⟩
set_option maxRecDepth 100000 in
theorem hasR05_any (c i : Nat) (hc : c < 16777216) (w : World) : Calls Tryz.prog 175 #[.int .i64 c, .int .i64 i] w fun e w' => e = .returned (.bool (c.testBit i)) ∧ w' = w := by
  by_cases hi : i < 24
  · have e := bit_val c i hc
    have h1 : (0 : Int) ≤ (i : Int) := by omega
    have h2 : (i : Int) < 24 := by omega
    have E := Lib.hid e
    clear e hc
    go_enter Tryz.func175, Tryz.ntmps175
    go_wp2
    go_ret
    exact ⟨by rw [← E.out]; rfl, rfl⟩
  · rw [bit_high hc (by omega)]
    have h1 : (0 : Int) ≤ (i : Int) := by omega
    have h2 : ¬ (i : Int) < 24 := by omega
    have d2 : decide ((i : Int) < 24) = false := decide_eq_false h2
    clear hc hi
    go_enter Tryz.func175, Tryz.ntmps175
    go_wp2
    go_ret
    exact ⟨by first | rfl | simp, rfl⟩
set_option maxRecDepth 100000 in
theorem great_any (s : Nat) (hs : s < 16777216) (w : World) : Calls Tryz.prog 87 #[.int .i64 s] w fun e w' => e = .returned (.int .i64 (gtK s)) ∧ w' = w := by
  have HC : Hid (∀ W, Calls Tryz.prog 167 #[.int .i64 s] W fun e w' => e = .returned (.int .i64 s) ∧ W = w') := Lib.hid fun W => cutk_any (by unfold Mk; omega) W
  have ew : IntKind.u64.wrap (s : Int) = (s : Int) := by rw [IntKind.wrap_u64]; omega
  obtain ⟨z, hz⟩ : ∃ z, z = Lib.bitLen s := ⟨_, rfl⟩
  have hz9 : z ≤ 24 := by rw [hz]; exact Lib.bitLen_le s 24 (by omega) (by rw [show (2 : Nat) ^ 24 = 16777216 from rfl]; exact hs)
  have HL : Hid (∀ W, Calls Tryz.prog 166 #[.int .u64 (s : Int)] W fun e w' => e = .returned (.int .i64 z) ∧ w' = W) := Lib.hid fun W => by
    have h := Tryz.bits_Len (s : Int) W (by omega) (by omega)
    rw [Int.toNat_natCast, ← hz] at h
    exact h
  have hg : gtK s = (z : Int) - 1 := by unfold gtK; rw [hz]
  rw [hg]
  clear hz hg hs
  go_enter Tryz.func87, Tryz.ntmps87
  go_wp2_with (first | (go_at_call 167; refine (HC.out _).mono ?_; rintro e w2 ⟨rfl, rfl⟩) | (go_at_call 166; refine (HL.out _).mono ?_; rintro e w2 ⟨rfl, rfl⟩))
  go_ret
  exact ⟨rfl, rfl⟩
theorem elems_step (s k : Nat) : ((List.range (k + 1)).filter fun i => s.testBit i) = ((List.range k).filter fun i => s.testBit i) ++ (if s.testBit k then [k] else []) := by
  rw [List.range_succ, List.filter_append]
  congr 1
  cases h : s.testBit k <;> simp [h]
theorem elems_len (s n : Nat) : ((List.range n).filter fun i => s.testBit i).length ≤ n := by
  have := List.length_filter_le (fun i => s.testBit i) (List.range n)
  simpa using this
set_option maxRecDepth 100000 in
set_option maxHeartbeats 2000000 in
theorem elems_own (s : Nat) (hs : s < 16777216) (w : World) : Calls Tryz.prog 165 #[.int .i64 s] w fun e w' => (∃ v, e = .returned v ∧ OwnInts w' w.heap.size v (ofN (elemsK s))) ∧ Kept w w' := by
  have HH := Lib.hid (fun (i : Nat) W => hasR05_any s i hs W)
  clear hs
  go_enter Tryz.func165, Tryz.ntmps165
  go_wp2_with fail
  go_loopg [3, 5] 24 (fun kx s3 s5 wr => ∃ k : Nat, k ≤ 24 ∧ s5 = .int .i64 k ∧ 24 - k ≤ kx ∧ Hid (OwnInts wr w.heap.size s3 (ofN ((List.range k).filter fun i => s.testBit i))) ∧ Hid (Kept w wr))
  case atStart => exact ⟨0, Nat.zero_le _, rfl, by omega, Lib.hid (OwnInts.nil _ _), Lib.hid (Kept.refl _)⟩
  case round =>
    obtain ⟨k, hk, rfl, hkx, HO, HK⟩ := hrel
    obtain ⟨a3, n3, c3, rfl⟩ := HO.out.ints.shape
    by_cases hlt : k < 24
    · have hkn : (k : Int) < 24 := by omega
      have HST := Lib.hid (elems_step s k)
      have HLN := Lib.hid (elems_len s k)
      cases hb : s.testBit k with
      | false =>
        have HC : Hid (∀ W, Calls Tryz.prog 175 #[.int .i64 s, .int .i64 k] W fun e w' => e = .returned (.bool false) ∧ w' = W) := Lib.hid fun W => by have h := HH.out k W; rw [hb] at h; exact h
        rw [hb] at HST
        clear hb
        go_wp2_with (go_at_call 175; refine (HC.out _).mono ?_; rintro e w2 ⟨rfl, rfl⟩)
        go_roundg (24 - (k + 1))
        case measure => omega
        case rel => exact ⟨k + 1, by omega, by go_num, Nat.le_refl _, Lib.hid (by rw [HST.out]; simpa using HO.out), HK⟩
      | true =>
        have HC : Hid (∀ W, Calls Tryz.prog 175 #[.int .i64 s, .int .i64 k] W fun e w' => e = .returned (.bool true) ∧ w' = W) := Lib.hid fun W => by have h := HH.out k W; rw [hb] at h; exact h
        rw [hb] at HST
        obtain ⟨L, hL⟩ : ∃ L, L = ((List.range k).filter fun i => s.testBit i) := ⟨_, rfl⟩
        rw [← hL] at HO HLN HST
        clear hb hL
        go_wp2_with (first
          | (go_at_call 175; refine (HC.out _).mono ?_; rintro e w2 ⟨rfl, rfl⟩)
          | (at_builtin; refine app_int rfl _ _ rfl w.heap.size _ (ofN L) rfl (HO.out.kept ((Kept.refl _).alloc _)) _ (k : Int) rfl (by simp) (by have := HLN.out; unfold ofN; rw [List.length_map]; omega) (by have := HK.out.size; simp; omega) ?_; intro v' w' h5 _ h6; have H5 := Lib.hid h5; have H6 := Lib.hid h6; clear h5 h6))
        obtain ⟨a5, n5, c5, rfl⟩ := H5.out.ints.shape
        go_roundg (24 - (k + 1))
        case measure => omega
        case rel => exact ⟨k + 1, by omega, by go_num, Nat.le_refl _, Lib.hid (by rw [HST.out]; simpa [ofN] using H5.out), Lib.hid ((HK.out.alloc _).app H6.out)⟩
    · have hke : k = 24 := by omega
      have HE : Hid (OwnInts wr w.heap.size (.slice a3 n3 c3) (ofN (elemsK s))) := Lib.hid (by have h := HO.out; rw [hke] at h; exact h)
      have hkn : ¬ (k : Int) < 24 := by omega
      clear hke
      go_wp2
      go_ret
      exact ⟨⟨_, rfl, HE.out⟩, HK.out⟩
theorem elems_any (s : Nat) (hs : s < 16777216) (w : World) : Calls Tryz.prog 165 #[.int .i64 s] w fun e w' => (∃ v, e = .returned v ∧ IntsAt w' v (ofN (elemsK s))) ∧ Kept w w' :=
  (elems_own s hs w).mono fun _ _ ⟨⟨v, h1, h2⟩, h3⟩ => ⟨⟨v, h1, h2.ints⟩, h3⟩
set_option maxRecDepth 100000 in
set_option maxHeartbeats 2000000 in
theorem great05_any (s : Nat) (hs : s < 16777216) (w : World) : Calls Tryz.prog 90 #[.int .i64 s] w fun e w' => e = .returned (.int .i64 (gtK s)) ∧ Kept w w' := by
  have HE := Lib.hid (elems_any s hs w)
  have HG := Lib.hid (last_elem hs)
  obtain ⟨L, hL⟩ : ∃ L, L = elemsK s := ⟨_, rfl⟩
  rw [← hL] at HE HG
  obtain ⟨G, hG⟩ : ∃ G, G = gtK s := ⟨_, rfl⟩
  rw [← hG] at HG ⊢
  clear hs hL hG
  go_enter Tryz.func90, Tryz.ntmps90
  go_wp2_with fail
  refine HE.out.mono ?_
  rintro e w2 ⟨⟨v2, rfl, hv2⟩, hk2⟩
  obtain ⟨a, c, rfl, ⟨hc, _⟩, hl, hx⟩ := hv2
  obtain ⟨n, hn⟩ : ∃ n, n = (ofN L).length := ⟨_, rfl⟩
  have hnL : n = L.length := by rw [hn]; unfold ofN; rw [List.length_map]
  rw [← hn]
  have hn9 : n ≤ 140737488355328 := by omega
  have HX := Lib.hid hx
  have HN := Lib.hid hn
  have HNL := Lib.hid hnL
  have HK2 := Lib.hid hk2
  clear hx hn hl hc hk2 hnL
  go_wp2_with fail
  go_loopg [3, 9] n (fun kx s3 s9 wr => ∃ k : Nat, k ≤ n ∧ s9 = .int .i64 k ∧ n - k ≤ kx ∧ s3 = .int .i64 ((L.take k).foldl (fun (_ : Int) (i : Nat) => (i : Int)) (-1)) ∧ w2 = wr)
  case atStart => exact ⟨0, Nat.zero_le _, rfl, by omega, rfl, rfl⟩
  case round =>
    obtain ⟨k, hk, rfl, hkx, rfl, rfl⟩ := hrel
    by_cases hlt : k < n
    · obtain ⟨b, o, rfl, hcell⟩ := HX.out k (by rw [← HN.out]; exact hlt)
      have hkL : k < L.length := by have := HNL.out; omega
      obtain ⟨y, hy⟩ : ∃ y, y = L[k] := ⟨_, rfl⟩
      have e1 : (ofN L)[k]'(by rw [← HN.out]; exact hlt) = (y : Int) := by rw [hy]; simp [ofN]
      rw [e1] at hcell
      have HST : Hid (((y : Nat) : Int) = (L.take (k + 1)).foldl (fun (_ : Int) (i : Nat) => (i : Int)) (-1)) := Lib.hid (by rw [List.take_succ_eq_append_getElem hkL, last_fold, hy])
      have hkn : (k : Int) < (n : Int) := by omega
      generalize (L.take k).foldl (fun (_ : Int) (i : Nat) => (i : Int)) (-1) = z at *
      clear e1 hy
      go_wp2_with fail
      go_roundg (n - (k + 1))
      case measure => omega
      case rel => exact ⟨k + 1, by omega, by go_num, Nat.le_refl _, by rw [HST.out], rfl⟩
    · have HE2 : Hid ((L.take k).foldl (fun (_ : Int) (i : Nat) => (i : Int)) (-1) = G) := Lib.hid (by rw [List.take_of_length_le (by have := HNL.out; omega)]; exact HG.out)
      have hkn : ¬ (k : Int) < (n : Int) := by omega
      rw [HE2.out]
      go_wp2
      go_ret
      exact ⟨rfl, HK2.out⟩
end Go.Proofs.YtbkchheikkbebaaGreatDoor

/-
  A fraction in a variable's cells; truncate.product, faultlineref35.Product.
-/
namespace Go.Proofs.YtbkchheikkbebaaGreatDoor
open Go.RowKit

theorem FixAt.store {w : World} {g : Nat} {xs : List Value} (h : FixAt w g xs) (i : Nat) (u : Value) : FixAt (w.setCell ⟨g, i, none⟩ u) g (xs.set i u) := by
  obtain ⟨cur, e, h1, h2⟩ := h
  refine ⟨cur.setIfInBounds i u, e, by simp [World.setCell, Array.getElem?_modify, h1], ?_⟩
  rw [Array.toList_setIfInBounds, h2]
/-- A variable that holds a fraction. -/
def RatCell (w : World) (g : Nat) (r : Rw) : Prop := ∃ a1 c1 a2 c2, RowAt w g 39 [.bool r.neg, .slice a1 r.num.length c1, .slice a2 r.den.length c2] ∧ FixAt w g [.bool r.neg, .slice a1 r.num.length c1, .slice a2 r.den.length c2] ∧ WdsAt w (.slice a1 r.num.length c1) r.num ∧ WdsAt w (.slice a2 r.den.length c2) r.den
theorem RatCell.kept {w w' : World} {g : Nat} {r : Rw} (h : RatCell w g r) (hk : Kept w w') : RatCell w' g r := by
  obtain ⟨a1, c1, a2, c2, h1, h2, h3, h4⟩ := h
  exact ⟨a1, c1, a2, c2, h1.kept hk, h2.kept hk, h3.kept hk, h4.kept hk⟩
theorem RatCell.made {w : World} {r : Rw} {a1 a2 : Option Addr} {c1 c2 : Nat} (h1 : WdsAt w (.slice a1 r.num.length c1) r.num) (h2 : WdsAt w (.slice a2 r.den.length c2) r.den) :
    RatCell (w.alloc (.cells #[.bool r.neg, .slice a1 r.num.length c1, .slice a2 r.den.length c2] 39)) w.heap.size r :=
  ⟨a1, c1, a2, c2, RowAt.made w #[.bool r.neg, .slice a1 r.num.length c1, .slice a2 r.den.length c2] 39, FixAt.made w #[.bool r.neg, .slice a1 r.num.length c1, .slice a2 r.den.length c2] 39, h1.kept ((Kept.refl _).alloc _), h2.kept ((Kept.refl _).alloc _)⟩
theorem RatCell.store {w : World} {g : Nat} {r r' : Rw} {a1 a2 : Option Addr} {c1 c2 : Nat} (h : RatCell w g r) (h1 : WdsAt w (.slice a1 r'.num.length c1) r'.num) (h2 : WdsAt w (.slice a2 r'.den.length c2) r'.den) :
    RatCell (((w.setCell ⟨g, 0, none⟩ (.bool r'.neg)).setCell ⟨g, 1, none⟩ (.slice a1 r'.num.length c1)).setCell ⟨g, 2, none⟩ (.slice a2 r'.den.length c2)) g r' := by
  obtain ⟨a3, c3, a4, c4, h3, h4, _, _⟩ := h
  have hr := ((h3.store 0 (.bool r'.neg)).store 1 (.slice a1 r'.num.length c1)).store 2 (.slice a2 r'.den.length c2)
  have hf := ((h4.store 0 (.bool r'.neg)).store 1 (.slice a1 r'.num.length c1)).store 2 (.slice a2 r'.den.length c2)
  simp only [List.set_cons_zero, List.set_cons_succ] at hr hf
  have hO := (((OnlyAt.refl g w).store 0 (.bool r'.neg)).store 1 (.slice a1 r'.num.length c1)).store 2 (.slice a2 r'.den.length c2)
  exact ⟨a1, c1, a2, c2, hr, hf, h1.apart h4 (by simp) hO, h2.apart h4 (by simp) hO⟩
theorem RatCell.at {w : World} {g : Nat} {r : Rw} (h : RatCell w g r) : ∃ a1 c1 a2 c2, (w.cell? ⟨g, 0, none⟩ = some (.bool r.neg) ∧ w.cell? ⟨g, 1, none⟩ = some (.slice a1 r.num.length c1) ∧ w.cell? ⟨g, 2, none⟩ = some (.slice a2 r.den.length c2)) ∧ (w.frozen? ⟨g, 0, none⟩ = false ∧ w.frozen? ⟨g, 1, none⟩ = false ∧ w.frozen? ⟨g, 2, none⟩ = false) ∧ g < w.heap.size ∧ RatAt w (.agg #[.bool r.neg, .slice a1 r.num.length c1, .slice a2 r.den.length c2]) r := by
  obtain ⟨a1, c1, a2, c2, h1, h2, h3, h4⟩ := h
  refine ⟨a1, c1, a2, c2, ⟨?_, ?_, ?_⟩, ⟨h1.free 0, h1.free 1, h1.free 2⟩, h1.lt, _, _, rfl, h3, h4⟩
  · have := h1.cell (i := 0) (by simp); simpa using this
  · have := h1.cell (i := 1) (by simp); simpa using this
  · have := h1.cell (i := 2) (by simp); simpa using this
/-- The product of the probabilities of the events below n of a set. -/
def prodQ (s : Nat) (ps : List Rw) : Nat → Rat
  | 0 => 1
  | k + 1 => if s.testBit k = true then prodQ s ps k * ratOf (ps.getD k default) else prodQ s ps k
theorem prodQ_succ (s : Nat) (ps : List Rw) (k : Nat) : prodQ s ps (k + 1) = if s.testBit k = true then prodQ s ps k * ratOf (ps.getD k default) else prodQ s ps k := rfl
theorem prodQ_high {s : Nat} {ps : List Rw} {n m : Nat} (h : ∀ i, n ≤ i → s.testBit i = false) (hm : n ≤ m) : prodQ s ps m = prodQ s ps n := by
  induction m with
  | zero => rw [show n = 0 by omega]
  | succ m ih =>
    by_cases he : n = m + 1
    · rw [he]
    · rw [prodQ_succ, if_neg (by rw [h m (by omega)]; simp)]
      exact ih (by omega)
theorem prodQ_elems (s : Nat) (ps : List Rw) : ∀ n, ((List.range n).filter fun i => s.testBit i).foldl (fun (q : Rat) (i : Nat) => q * ratOf (ps.getD i default)) 1 = prodQ s ps n := by
  intro n
  induction n with
  | zero => rfl
  | succ n ih =>
    rw [elems_step, List.foldl_append, ih, prodQ_succ]
    cases h : s.testBit n <;> rfl
/-- How long products become. -/
theorem prod_short {s : Nat} {ps : List Rw} (hs : ∀ r ∈ ps, r.Short 3) (hok : ∀ r ∈ ps, r.Ok) : ∀ n, n ≤ ps.length → (canR (prodQ s ps n)).Short (3 * n + 1) := by
  intro n
  induction n with
  | zero => intro _; exact one_short
  | succ n ih =>
    intro hn
    have ih := ih (by omega)
    have hx : ps.getD n default = ps[n] := by simp [List.getD_eq_getElem?_getD, show n < ps.length by omega]
    rw [prodQ_succ]
    split
    · have h := short_mul (canR_ok (prodQ s ps n)) (hok _ (List.getElem_mem (show n < ps.length by omega))) ih (hs _ (List.getElem_mem (show n < ps.length by omega))) (by omega) (by omega)
      rw [ratOf_can, ← hx] at h
      exact ⟨Nat.le_trans h.1 (by omega), Nat.le_trans h.2 (by omega)⟩
    · exact ⟨Nat.le_trans ih.1 (by omega), Nat.le_trans ih.2 (by omega)⟩
theorem RatsAt.ok {w : World} {v : Value} {ps : List Rw} (h : RatsAt w v ps) : ∀ r ∈ ps, r.Ok := by
  obtain ⟨a, c, _, _, _, h4⟩ := h
  intro r hr
  obtain ⟨i, hi, rfl⟩ := List.getElem_of_mem hr
  obtain ⟨_, _, _, _, _, _, h7, h8⟩ := h4 i hi
  exact ⟨h7.wd, h8.wd⟩
end Go.Proofs.YtbkchheikkbebaaGreatDoor
