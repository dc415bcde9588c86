import Derived.WalkKit
import Derived.WalkSpells
import Derived.WalkLawsBesides
import Derived.Deep.QuietTactic
import Derived.BigQuiet
import Derived.Lib.Hide
import Derived.Shelf.Abstract
import Derived.Deep.RegionWith
import Derived.Laws.AppendOwnNone
import Derived.Lib.AppendZerosOnto
import Derived.Lib.SliceRun
import Derived.Lib.SlicesCompact
import Derived.Shelf.SlSortCmp.NoneTotal
import Derived.Maps.OwnOps
import Derived.Maps.OwnSet
import Derived.Maps.Views
import Derived.Deep.MidRow
import Derived.Deep.RegionHeld3
import Derived.Deep.AppendLies
import Derived.Deep.RegionLaw
import Derived.IntWalk
import Derived.StillTailTactics
import Derived.RegionTactic
import Derived.BigRegion
import Derived.ChangeAlike
import Derived.Sort.LotD2
import Derived.Sort.LotA
import Derived.Shelf.SlSortCmp.PdqK
import Derived.Deep.DeepCutAuto
import Derived.Lib.ItoaNum
import Derived.Deep.LoopGhost
import Derived.ProofKit
import Derived.OpenShut
import Derived.SizedLaws
import Derived.Lib.SmallJoins
import Derived.Deep.Slices
import Derived.Deep.Fields
import Derived.Deep.Strs
import Derived.Carry
import Derived.Lib.BitFns
import Derived.Deep.CutBlock
import Derived.Test.YteodabnjkikogaaGreatL7
import Derived.Test.YteodabnjkikogaaGreatL9
import Derived.Test.YteodabnjkikogaaGreatRows
import Derived.Test.YteodabnjkikogaaGreatChecked
/-
  Walk: the law TruncateLeft returns true, whatever the truncation and the fractions. Printed by gen_A54.py.
-/
namespace Go.Proofs.YteodabnjkikogaaGreat
open Go.RowKit

theorem chk_le (xs : List Int) : chkI xs ≤ 13 := by
  unfold chkI
  rcases err_cases xs with h | h | h <;> rw [h] <;> simp <;> (try split) <;> (try split) <;> omega
theorem left_le (xs ys : List Int) (ps : List Rw) : (leftQ xs ys ps).1 ≤ 13 := by
  unfold leftQ
  have h1 := chk_le xs
  have h2 := chk_le ys
  split
  · exact h1
  · split
    · exact h2
    · split
      · simp
      · split <;> simp
set_option maxRecDepth 100000 in
set_option maxHeartbeats 16000000 in
theorem left_true (kv fv v : Value) (xs ys : List Int) (ps : List Rw) (w : World) (hk : IntsAt w kv xs) (hf : IntsAt w fv ys) (hv : RatsRaw w v ps) :
    Calls Tryz.prog 4 #[.agg #[kv, fv], v] w fun e w' => e = .returned (.bool true) ∧ Kept w w' := by
  have HA : Hid (∀ W, Calls Tryz.prog 6 #[] W fun e w' => e = .returned (.bool true) ∧ Kept W w') := Lib.hid fun W => wawake_ok W
  have HL := Lib.hid (fun W (h : Kept w W) => large_any v ps W (hv.kept h))
  obtain ⟨Qn, hQn⟩ : ∃ Qn, Qn = (leftQ xs ys ps).1 := ⟨_, rfl⟩
  obtain ⟨Qr, hQr⟩ : ∃ Qr, Qr = (leftQ xs ys ps).2 := ⟨_, rfl⟩
  have hq13 : Qn ≤ 13 := by rw [hQn]; exact left_le xs ys ps
  have HNU : Hid (∀ W, Calls Tryz.prog 12 #[errV Qn] W fun e w' => e = .returned (.int .i64 Qn) ∧ W = w') := Lib.hid fun W => num_eq Qn W (by omega)
  have HLE : Hid (ps.length ≤ 30 → (∀ r ∈ ps, r.Short 3) → (ys.length ≤ 60 ∨ 1024 < ys.length) → ∀ W, Kept w W → Calls Tryz.prog 15 #[.agg #[kv, fv], v] W fun e w' => (∃ v', e = .returned (.tuple #[v', errV Qn]) ∧ RatAt w' v' (canR Qr)) ∧ Kept W w') := Lib.hid fun h30 h3 hy W h => by
    rw [hQn, hQr]
    exact leftT_any kv fv v xs ys ps W (hk.kept h) (hf.kept h) ((hv.kept h).small fun r hr => ⟨Nat.le_trans (h3 r hr).1 (by omega), Nat.le_trans (h3 r hr).2 (by omega)⟩) h3 h30 hy
  have HRE : Hid (ps.length ≤ 30 → (∀ r ∈ ps, r.Short 3) → (ys.length ≤ 60 ∨ 1024 < ys.length) → ∀ W, Kept w W → Calls Tryz.prog 16 #[.agg #[kv, fv], v] W fun e w' => (∃ v', e = .returned (.tuple #[v', .int .i64 Qn]) ∧ RatAt w' v' (canR Qr)) ∧ Kept W w') := Lib.hid fun h30 h3 hy W h => by
    rw [hQn, hQr]
    exact refleft_any kv fv v xs ys ps W (hk.kept h) (hf.kept h) ((hv.kept h).small fun r hr => ⟨Nat.le_trans (h3 r hr).1 (by omega), Nat.le_trans (h3 r hr).2 (by omega)⟩) h3 h30 hy
  obtain ⟨ka, kc, hks, _, hkl, _⟩ := id hk
  obtain ⟨fa, fc, hfs, _, hfl, _⟩ := id hf
  obtain ⟨n, hn⟩ : ∃ n, n = xs.length := ⟨_, rfl⟩
  obtain ⟨m, hm⟩ : ∃ m, m = ys.length := ⟨_, rfl⟩
  rw [← hn] at hks hkl
  rw [← hm] at hfs hfl HLE HRE
  subst hks hfs
  obtain ⟨t, ht⟩ : ∃ t, t = n + m := ⟨_, rfl⟩
  have et : (n : Int) + (m : Int) = (t : Int) := by omega
  have ht9 : t ≤ 281474976710656 := by omega
  obtain ⟨w2, hw2⟩ : ∃ w2, w2 = w.alloc (.cells #[.slice ka n kc, .slice fa m fc] 34) := ⟨_, rfl⟩
  have hbx := RowAt.made w #[.slice ka n kc, .slice fa m fc] 34
  rw [← hw2] at hbx
  have HK0 : Hid (Kept w w2) := Lib.hid (by rw [hw2]; exact (Kept.refl w).alloc _)
  have HW2 := Lib.hid hw2
  have b0 := hbx.cell (i := 0) (by simp)
  have b1 := hbx.cell (i := 1) (by simp)
  simp only [List.getElem_cons_succ, List.getElem_cons_zero] at b0 b1
  obtain ⟨a, c, hvs, _⟩ := id hv
  obtain ⟨pn, hpn⟩ : ∃ pn, pn = ps.length := ⟨_, rfl⟩
  rw [← hpn] at hvs HLE HRE
  subst hvs
  have HPN := Lib.hid hpn
  have HLW : Hid (∀ u, LargeV u ps → LargeV u ps) := Lib.hid fun _ h => h
  clear hk hf hv hQn hQr hq13 hn hm ht hw2 hbx hpn
  by_cases hn1 : n ≤ 60
  · have dn1 : decide ((60 : Int) < (n : Int)) = false := decide_eq_false (by omega)
    have gn1 : ¬ (60 : Int) < (n : Int) := by omega
    by_cases hm1 : m ≤ 60
    · have dm1 : decide ((60 : Int) < (m : Int)) = false := decide_eq_false (by omega)
      have gm1 : ¬ (60 : Int) < (m : Int) := by omega
      have HYY : Hid (m ≤ 60 ∨ 1024 < m) := Lib.hid (.inl hm1)
      by_cases hs : 5000 < t
      · exfalso; omega
      · have ds : decide ((5000 : Int) < (t : Int)) = false := decide_eq_false (by omega)
        have gs : ¬ (5000 : Int) < (t : Int) := by omega
        go_enter Tryz.func4, Tryz.ntmps4
        go_wp2_with fail
        rw [← HW2.out]
        refine (HA.out _).mono ?_
        rintro e w3 ⟨rfl, hk3⟩
        have b30 := hk3.cell b0
        have b31 := hk3.cell b1
        have HK3 := Lib.hid (HK0.out.trans hk3)
        clear hk3 b0 b1
        go_wp2_with fail
        refine (HL.out _ HK3.out).mono ?_
        rintro e w4 ⟨⟨u4, rfl, hu4⟩, hk4⟩
        obtain ⟨bb, rfl, hbb⟩ := hu4
        have b40 := hk4.cell b30
        have b41 := hk4.cell b31
        have HK4 := Lib.hid (HK3.out.trans hk4)
        have HBB := Lib.hid hbb
        clear hk4 b30 b31 hbb
        cases bb with
        | true =>
          go_wp2_with (go_at_call 6; refine (HA.out _).mono ?_; rintro e w5 ⟨rfl, hk5⟩)
          go_ret
          exact ⟨rfl, HK4.out.trans hk5⟩
        | false =>
          obtain ⟨h30, hs3⟩ := HBB.out rfl
          rw [← HPN.out] at h30
          have HLF := Lib.hid (HLE.out h30 hs3 HYY.out)
          have HRF := Lib.hid (HRE.out h30 hs3 HYY.out)
          clear h30 hs3
          go_wp2_with fail
          refine (HLF.out _ HK4.out).mono ?_
          rintro e w5 ⟨⟨v5, rfl, hv5⟩, hk5⟩
          have b50 := hk5.cell b40
          have b51 := hk5.cell b41
          have HK5 := Lib.hid (HK4.out.trans hk5)
          obtain ⟨u1, u2, rfl, h1, h2⟩ := hv5
          obtain ⟨a1, c1, rfl⟩ := h1.shape
          obtain ⟨a2, c2, rfl⟩ := h2.shape
          have H1 := Lib.hid h1
          have H2 := Lib.hid h2
          have d50 := ((Kept.refl w5).alloc (.cells #[.bool (canR Qr).neg, .slice a1 (canR Qr).num.length c1, .slice a2 (canR Qr).den.length c2] 28)).cell b50
          have d51 := ((Kept.refl w5).alloc (.cells #[.bool (canR Qr).neg, .slice a1 (canR Qr).num.length c1, .slice a2 (canR Qr).den.length c2] 28)).cell b51
          have p := RowAt.made w5 #[.bool (canR Qr).neg, .slice a1 (canR Qr).num.length c1, .slice a2 (canR Qr).den.length c2] 28
          have p0 := p.cell (i := 0) (by simp)
          have p1 := p.cell (i := 1) (by simp)
          have p2 := p.cell (i := 2) (by simp)
          simp only [List.getElem_cons_succ, List.getElem_cons_zero] at p0 p1 p2
          obtain ⟨w6, hw6⟩ : ∃ w6, w6 = w5.alloc (.cells #[.bool (canR Qr).neg, .slice a1 (canR Qr).num.length c1, .slice a2 (canR Qr).den.length c2] 28) := ⟨_, rfl⟩
          rw [← hw6] at p0 p1 p2
          have HK56 : Hid (Kept w5 w6) := Lib.hid (by rw [hw6]; exact (Kept.refl _).alloc _)
          have HW6 := Lib.hid hw6
          clear h1 h2 hk5 b40 b41 b50 b51 hw6 p
          generalize hz1 : (canR Qr).neg = z1 at *
          generalize hz2 : (canR Qr).num.length = z2 at *
          generalize hz3 : (canR Qr).den.length = z3 at *
          have HZ := Lib.hid (And.intro hz1 (And.intro hz2 hz3))
          clear hz1 hz2 hz3
          go_wp2_with fail
          rw [← HW6.out]
          refine (HRF.out _ (HK5.out.trans HK56.out)).mono ?_
          rintro e w7 ⟨⟨v7, rfl, hv7⟩, hk7⟩
          have r0 := hk7.cell p0
          have r1 := hk7.cell p1
          have r2 := hk7.cell p2
          have HK57 := Lib.hid (HK56.out.trans hk7)
          have HK7 := Lib.hid ((HK5.out.trans HK56.out).trans hk7)
          obtain ⟨u3, u4, rfl, h3, h4⟩ := hv7
          obtain ⟨a3, c3, rfl⟩ := h3.shape
          obtain ⟨a4, c4, rfl⟩ := h4.shape
          have hra : RatAt w7 (.agg #[.bool (canR Qr).neg, .slice a3 (canR Qr).num.length c3, .slice a4 (canR Qr).den.length c4]) (canR Qr) := ⟨_, _, rfl, h3, h4⟩
          have hrb : RatAt w7 (.agg #[.bool (canR Qr).neg, .slice a1 z2 c1, .slice a2 z3 c2]) (canR Qr) := ⟨_, _, rfl, H1.out.kept HK57.out, H2.out.kept HK57.out⟩
          rw [HZ.out.1, HZ.out.2.1, HZ.out.2.2] at hra
          rw [HZ.out.1] at hrb
          rw [HZ.out.1, HZ.out.2.1, HZ.out.2.2]
          have HRT := Lib.hid (fun W (hk : Kept w7 W) => rat_true _ _ _ W (hrb.kept hk) (hra.kept hk))
          have s0 := ((Kept.refl w7).alloc (.cells #[.bool z1, .slice a3 z2 c3, .slice a4 z3 c4] 28)).cell r0
          have s1 := ((Kept.refl w7).alloc (.cells #[.bool z1, .slice a3 z2 c3, .slice a4 z3 c4] 28)).cell r1
          have s2 := ((Kept.refl w7).alloc (.cells #[.bool z1, .slice a3 z2 c3, .slice a4 z3 c4] 28)).cell r2
          clear h3 h4 hk7 d50 d51 p0 p1 p2 r0 r1 r2 hra hrb
          go_wp2_with (first
            | (go_at_call 12; refine (HNU.out _).mono ?_; rintro e w8 ⟨rfl, rfl⟩)
            | (go_at_call 17; (with_reducible refine (HRT.out _ ((Kept.refl _).alloc _)).mono ?_); rintro e w9 ⟨rfl, hk9⟩))
          go_ret
          exact ⟨rfl, HK7.out.trans (((Kept.refl _).alloc _).trans hk9)⟩
    · have dm1 : decide ((60 : Int) < (m : Int)) = true := decide_eq_true (by omega)
      have gm1 : (60 : Int) < (m : Int) := by omega
      by_cases hm2 : m ≤ 1024
      · have dm2 : decide ((m : Int) ≤ 1024) = true := decide_eq_true (by omega)
        have gm2 : (m : Int) ≤ 1024 := by omega
        go_enter Tryz.func4, Tryz.ntmps4
        go_wp2_with fail
        rw [← HW2.out]
        refine (HA.out _).mono ?_
        rintro e w3 ⟨rfl, hk3⟩
        have b30 := hk3.cell b0
        have b31 := hk3.cell b1
        have HK3 := Lib.hid (HK0.out.trans hk3)
        clear hk3 b0 b1
        go_wp2_with fail
        refine (HL.out _ HK3.out).mono ?_
        rintro e w4 ⟨⟨u4, rfl, hu4⟩, hk4⟩
        obtain ⟨bb, rfl, hbb⟩ := hu4
        have b40 := hk4.cell b30
        have b41 := hk4.cell b31
        have HK4 := Lib.hid (HK3.out.trans hk4)
        have HBB := Lib.hid hbb
        clear hk4 b30 b31 hbb
        cases bb with
        | true =>
          go_wp2_with (go_at_call 6; refine (HA.out _).mono ?_; rintro e w5 ⟨rfl, hk5⟩)
          go_ret
          exact ⟨rfl, HK4.out.trans hk5⟩
        | false =>
          go_wp2_with (go_at_call 6; refine (HA.out _).mono ?_; rintro e w5 ⟨rfl, hk5⟩)
          go_ret
          exact ⟨rfl, HK4.out.trans hk5⟩
      · have dm2 : decide ((m : Int) ≤ 1024) = false := decide_eq_false (by omega)
        have gm2 : ¬ (m : Int) ≤ 1024 := by omega
        have HYY : Hid (m ≤ 60 ∨ 1024 < m) := Lib.hid (.inr (by omega))
        by_cases hs : 5000 < t
        · have ds : decide ((5000 : Int) < (t : Int)) = true := decide_eq_true (by omega)
          have gs : (5000 : Int) < (t : Int) := by omega
          go_enter Tryz.func4, Tryz.ntmps4
          go_wp2_with fail
          rw [← HW2.out]
          refine (HA.out _).mono ?_
          rintro e w3 ⟨rfl, hk3⟩
          have b30 := hk3.cell b0
          have b31 := hk3.cell b1
          have HK3 := Lib.hid (HK0.out.trans hk3)
          clear hk3 b0 b1
          go_wp2_with fail
          refine (HL.out _ HK3.out).mono ?_
          rintro e w4 ⟨⟨u4, rfl, hu4⟩, hk4⟩
          obtain ⟨bb, rfl, hbb⟩ := hu4
          have b40 := hk4.cell b30
          have b41 := hk4.cell b31
          have HK4 := Lib.hid (HK3.out.trans hk4)
          have HBB := Lib.hid hbb
          clear hk4 b30 b31 hbb
          cases bb with
          | true =>
            go_wp2_with (go_at_call 6; refine (HA.out _).mono ?_; rintro e w5 ⟨rfl, hk5⟩)
            go_ret
            exact ⟨rfl, HK4.out.trans hk5⟩
          | false =>
            go_wp2_with (go_at_call 6; refine (HA.out _).mono ?_; rintro e w5 ⟨rfl, hk5⟩)
            go_ret
            exact ⟨rfl, HK4.out.trans hk5⟩
        · have ds : decide ((5000 : Int) < (t : Int)) = false := decide_eq_false (by omega)
          have gs : ¬ (5000 : Int) < (t : Int) := by omega
          go_enter Tryz.func4, Tryz.ntmps4
          go_wp2_with fail
          rw [← HW2.out]
          refine (HA.out _).mono ?_
          rintro e w3 ⟨rfl, hk3⟩
          have b30 := hk3.cell b0
          have b31 := hk3.cell b1
          have HK3 := Lib.hid (HK0.out.trans hk3)
          clear hk3 b0 b1
          go_wp2_with fail
          refine (HL.out _ HK3.out).mono ?_
          rintro e w4 ⟨⟨u4, rfl, hu4⟩, hk4⟩
          obtain ⟨bb, rfl, hbb⟩ := hu4
          have b40 := hk4.cell b30
          have b41 := hk4.cell b31
          have HK4 := Lib.hid (HK3.out.trans hk4)
          have HBB := Lib.hid hbb
          clear hk4 b30 b31 hbb
          cases bb with
          | true =>
            go_wp2_with (go_at_call 6; refine (HA.out _).mono ?_; rintro e w5 ⟨rfl, hk5⟩)
            go_ret
            exact ⟨rfl, HK4.out.trans hk5⟩
          | false =>
            obtain ⟨h30, hs3⟩ := HBB.out rfl
            rw [← HPN.out] at h30
            have HLF := Lib.hid (HLE.out h30 hs3 HYY.out)
            have HRF := Lib.hid (HRE.out h30 hs3 HYY.out)
            clear h30 hs3
            go_wp2_with fail
            refine (HLF.out _ HK4.out).mono ?_
            rintro e w5 ⟨⟨v5, rfl, hv5⟩, hk5⟩
            have b50 := hk5.cell b40
            have b51 := hk5.cell b41
            have HK5 := Lib.hid (HK4.out.trans hk5)
            obtain ⟨u1, u2, rfl, h1, h2⟩ := hv5
            obtain ⟨a1, c1, rfl⟩ := h1.shape
            obtain ⟨a2, c2, rfl⟩ := h2.shape
            have H1 := Lib.hid h1
            have H2 := Lib.hid h2
            have d50 := ((Kept.refl w5).alloc (.cells #[.bool (canR Qr).neg, .slice a1 (canR Qr).num.length c1, .slice a2 (canR Qr).den.length c2] 28)).cell b50
            have d51 := ((Kept.refl w5).alloc (.cells #[.bool (canR Qr).neg, .slice a1 (canR Qr).num.length c1, .slice a2 (canR Qr).den.length c2] 28)).cell b51
            have p := RowAt.made w5 #[.bool (canR Qr).neg, .slice a1 (canR Qr).num.length c1, .slice a2 (canR Qr).den.length c2] 28
            have p0 := p.cell (i := 0) (by simp)
            have p1 := p.cell (i := 1) (by simp)
            have p2 := p.cell (i := 2) (by simp)
            simp only [List.getElem_cons_succ, List.getElem_cons_zero] at p0 p1 p2
            obtain ⟨w6, hw6⟩ : ∃ w6, w6 = w5.alloc (.cells #[.bool (canR Qr).neg, .slice a1 (canR Qr).num.length c1, .slice a2 (canR Qr).den.length c2] 28) := ⟨_, rfl⟩
            rw [← hw6] at p0 p1 p2
            have HK56 : Hid (Kept w5 w6) := Lib.hid (by rw [hw6]; exact (Kept.refl _).alloc _)
            have HW6 := Lib.hid hw6
            clear h1 h2 hk5 b40 b41 b50 b51 hw6 p
            generalize hz1 : (canR Qr).neg = z1 at *
            generalize hz2 : (canR Qr).num.length = z2 at *
            generalize hz3 : (canR Qr).den.length = z3 at *
            have HZ := Lib.hid (And.intro hz1 (And.intro hz2 hz3))
            clear hz1 hz2 hz3
            go_wp2_with fail
            rw [← HW6.out]
            refine (HRF.out _ (HK5.out.trans HK56.out)).mono ?_
            rintro e w7 ⟨⟨v7, rfl, hv7⟩, hk7⟩
            have r0 := hk7.cell p0
            have r1 := hk7.cell p1
            have r2 := hk7.cell p2
            have HK57 := Lib.hid (HK56.out.trans hk7)
            have HK7 := Lib.hid ((HK5.out.trans HK56.out).trans hk7)
            obtain ⟨u3, u4, rfl, h3, h4⟩ := hv7
            obtain ⟨a3, c3, rfl⟩ := h3.shape
            obtain ⟨a4, c4, rfl⟩ := h4.shape
            have hra : RatAt w7 (.agg #[.bool (canR Qr).neg, .slice a3 (canR Qr).num.length c3, .slice a4 (canR Qr).den.length c4]) (canR Qr) := ⟨_, _, rfl, h3, h4⟩
            have hrb : RatAt w7 (.agg #[.bool (canR Qr).neg, .slice a1 z2 c1, .slice a2 z3 c2]) (canR Qr) := ⟨_, _, rfl, H1.out.kept HK57.out, H2.out.kept HK57.out⟩
            rw [HZ.out.1, HZ.out.2.1, HZ.out.2.2] at hra
            rw [HZ.out.1] at hrb
            rw [HZ.out.1, HZ.out.2.1, HZ.out.2.2]
            have HRT := Lib.hid (fun W (hk : Kept w7 W) => rat_true _ _ _ W (hrb.kept hk) (hra.kept hk))
            have s0 := ((Kept.refl w7).alloc (.cells #[.bool z1, .slice a3 z2 c3, .slice a4 z3 c4] 28)).cell r0
            have s1 := ((Kept.refl w7).alloc (.cells #[.bool z1, .slice a3 z2 c3, .slice a4 z3 c4] 28)).cell r1
            have s2 := ((Kept.refl w7).alloc (.cells #[.bool z1, .slice a3 z2 c3, .slice a4 z3 c4] 28)).cell r2
            clear h3 h4 hk7 d50 d51 p0 p1 p2 r0 r1 r2 hra hrb
            go_wp2_with (first
              | (go_at_call 12; refine (HNU.out _).mono ?_; rintro e w8 ⟨rfl, rfl⟩)
              | (go_at_call 17; (with_reducible refine (HRT.out _ ((Kept.refl _).alloc _)).mono ?_); rintro e w9 ⟨rfl, hk9⟩))
            go_ret
            exact ⟨rfl, HK7.out.trans (((Kept.refl _).alloc _).trans hk9)⟩
  · have dn1 : decide ((60 : Int) < (n : Int)) = true := decide_eq_true (by omega)
    have gn1 : (60 : Int) < (n : Int) := by omega
    by_cases hn2 : n ≤ 1024
    · have dn2 : decide ((n : Int) ≤ 1024) = true := decide_eq_true (by omega)
      have gn2 : (n : Int) ≤ 1024 := by omega
      go_enter Tryz.func4, Tryz.ntmps4
      go_wp2_with fail
      rw [← HW2.out]
      refine (HA.out _).mono ?_
      rintro e w3 ⟨rfl, hk3⟩
      have b30 := hk3.cell b0
      have b31 := hk3.cell b1
      have HK3 := Lib.hid (HK0.out.trans hk3)
      clear hk3 b0 b1
      go_wp2_with fail
      refine (HL.out _ HK3.out).mono ?_
      rintro e w4 ⟨⟨u4, rfl, hu4⟩, hk4⟩
      obtain ⟨bb, rfl, hbb⟩ := hu4
      have b40 := hk4.cell b30
      have b41 := hk4.cell b31
      have HK4 := Lib.hid (HK3.out.trans hk4)
      have HBB := Lib.hid hbb
      clear hk4 b30 b31 hbb
      cases bb with
      | true =>
        go_wp2_with (go_at_call 6; refine (HA.out _).mono ?_; rintro e w5 ⟨rfl, hk5⟩)
        go_ret
        exact ⟨rfl, HK4.out.trans hk5⟩
      | false =>
        go_wp2_with (go_at_call 6; refine (HA.out _).mono ?_; rintro e w5 ⟨rfl, hk5⟩)
        go_ret
        exact ⟨rfl, HK4.out.trans hk5⟩
    · have dn2 : decide ((n : Int) ≤ 1024) = false := decide_eq_false (by omega)
      have gn2 : ¬ (n : Int) ≤ 1024 := by omega
      by_cases hm1 : m ≤ 60
      · have dm1 : decide ((60 : Int) < (m : Int)) = false := decide_eq_false (by omega)
        have gm1 : ¬ (60 : Int) < (m : Int) := by omega
        have HYY : Hid (m ≤ 60 ∨ 1024 < m) := Lib.hid (.inl hm1)
        by_cases hs : 5000 < t
        · have ds : decide ((5000 : Int) < (t : Int)) = true := decide_eq_true (by omega)
          have gs : (5000 : Int) < (t : Int) := by omega
          go_enter Tryz.func4, Tryz.ntmps4
          go_wp2_with fail
          rw [← HW2.out]
          refine (HA.out _).mono ?_
          rintro e w3 ⟨rfl, hk3⟩
          have b30 := hk3.cell b0
          have b31 := hk3.cell b1
          have HK3 := Lib.hid (HK0.out.trans hk3)
          clear hk3 b0 b1
          go_wp2_with fail
          refine (HL.out _ HK3.out).mono ?_
          rintro e w4 ⟨⟨u4, rfl, hu4⟩, hk4⟩
          obtain ⟨bb, rfl, hbb⟩ := hu4
          have b40 := hk4.cell b30
          have b41 := hk4.cell b31
          have HK4 := Lib.hid (HK3.out.trans hk4)
          have HBB := Lib.hid hbb
          clear hk4 b30 b31 hbb
          cases bb with
          | true =>
            go_wp2_with (go_at_call 6; refine (HA.out _).mono ?_; rintro e w5 ⟨rfl, hk5⟩)
            go_ret
            exact ⟨rfl, HK4.out.trans hk5⟩
          | false =>
            go_wp2_with (go_at_call 6; refine (HA.out _).mono ?_; rintro e w5 ⟨rfl, hk5⟩)
            go_ret
            exact ⟨rfl, HK4.out.trans hk5⟩
        · have ds : decide ((5000 : Int) < (t : Int)) = false := decide_eq_false (by omega)
          have gs : ¬ (5000 : Int) < (t : Int) := by omega
          go_enter Tryz.func4, Tryz.ntmps4
          go_wp2_with fail
          rw [← HW2.out]
          refine (HA.out _).mono ?_
          rintro e w3 ⟨rfl, hk3⟩
          have b30 := hk3.cell b0
          have b31 := hk3.cell b1
          have HK3 := Lib.hid (HK0.out.trans hk3)
          clear hk3 b0 b1
          go_wp2_with fail
          refine (HL.out _ HK3.out).mono ?_
          rintro e w4 ⟨⟨u4, rfl, hu4⟩, hk4⟩
          obtain ⟨bb, rfl, hbb⟩ := hu4
          have b40 := hk4.cell b30
          have b41 := hk4.cell b31
          have HK4 := Lib.hid (HK3.out.trans hk4)
          have HBB := Lib.hid hbb
          clear hk4 b30 b31 hbb
          cases bb with
          | true =>
            go_wp2_with (go_at_call 6; refine (HA.out _).mono ?_; rintro e w5 ⟨rfl, hk5⟩)
            go_ret
            exact ⟨rfl, HK4.out.trans hk5⟩
          | false =>
            obtain ⟨h30, hs3⟩ := HBB.out rfl
            rw [← HPN.out] at h30
            have HLF := Lib.hid (HLE.out h30 hs3 HYY.out)
            have HRF := Lib.hid (HRE.out h30 hs3 HYY.out)
            clear h30 hs3
            go_wp2_with fail
            refine (HLF.out _ HK4.out).mono ?_
            rintro e w5 ⟨⟨v5, rfl, hv5⟩, hk5⟩
            have b50 := hk5.cell b40
            have b51 := hk5.cell b41
            have HK5 := Lib.hid (HK4.out.trans hk5)
            obtain ⟨u1, u2, rfl, h1, h2⟩ := hv5
            obtain ⟨a1, c1, rfl⟩ := h1.shape
            obtain ⟨a2, c2, rfl⟩ := h2.shape
            have H1 := Lib.hid h1
            have H2 := Lib.hid h2
            have d50 := ((Kept.refl w5).alloc (.cells #[.bool (canR Qr).neg, .slice a1 (canR Qr).num.length c1, .slice a2 (canR Qr).den.length c2] 28)).cell b50
            have d51 := ((Kept.refl w5).alloc (.cells #[.bool (canR Qr).neg, .slice a1 (canR Qr).num.length c1, .slice a2 (canR Qr).den.length c2] 28)).cell b51
            have p := RowAt.made w5 #[.bool (canR Qr).neg, .slice a1 (canR Qr).num.length c1, .slice a2 (canR Qr).den.length c2] 28
            have p0 := p.cell (i := 0) (by simp)
            have p1 := p.cell (i := 1) (by simp)
            have p2 := p.cell (i := 2) (by simp)
            simp only [List.getElem_cons_succ, List.getElem_cons_zero] at p0 p1 p2
            obtain ⟨w6, hw6⟩ : ∃ w6, w6 = w5.alloc (.cells #[.bool (canR Qr).neg, .slice a1 (canR Qr).num.length c1, .slice a2 (canR Qr).den.length c2] 28) := ⟨_, rfl⟩
            rw [← hw6] at p0 p1 p2
            have HK56 : Hid (Kept w5 w6) := Lib.hid (by rw [hw6]; exact (Kept.refl _).alloc _)
            have HW6 := Lib.hid hw6
            clear h1 h2 hk5 b40 b41 b50 b51 hw6 p
            generalize hz1 : (canR Qr).neg = z1 at *
            generalize hz2 : (canR Qr).num.length = z2 at *
            generalize hz3 : (canR Qr).den.length = z3 at *
            have HZ := Lib.hid (And.intro hz1 (And.intro hz2 hz3))
            clear hz1 hz2 hz3
            go_wp2_with fail
            rw [← HW6.out]
            refine (HRF.out _ (HK5.out.trans HK56.out)).mono ?_
            rintro e w7 ⟨⟨v7, rfl, hv7⟩, hk7⟩
            have r0 := hk7.cell p0
            have r1 := hk7.cell p1
            have r2 := hk7.cell p2
            have HK57 := Lib.hid (HK56.out.trans hk7)
            have HK7 := Lib.hid ((HK5.out.trans HK56.out).trans hk7)
            obtain ⟨u3, u4, rfl, h3, h4⟩ := hv7
            obtain ⟨a3, c3, rfl⟩ := h3.shape
            obtain ⟨a4, c4, rfl⟩ := h4.shape
            have hra : RatAt w7 (.agg #[.bool (canR Qr).neg, .slice a3 (canR Qr).num.length c3, .slice a4 (canR Qr).den.length c4]) (canR Qr) := ⟨_, _, rfl, h3, h4⟩
            have hrb : RatAt w7 (.agg #[.bool (canR Qr).neg, .slice a1 z2 c1, .slice a2 z3 c2]) (canR Qr) := ⟨_, _, rfl, H1.out.kept HK57.out, H2.out.kept HK57.out⟩
            rw [HZ.out.1, HZ.out.2.1, HZ.out.2.2] at hra
            rw [HZ.out.1] at hrb
            rw [HZ.out.1, HZ.out.2.1, HZ.out.2.2]
            have HRT := Lib.hid (fun W (hk : Kept w7 W) => rat_true _ _ _ W (hrb.kept hk) (hra.kept hk))
            have s0 := ((Kept.refl w7).alloc (.cells #[.bool z1, .slice a3 z2 c3, .slice a4 z3 c4] 28)).cell r0
            have s1 := ((Kept.refl w7).alloc (.cells #[.bool z1, .slice a3 z2 c3, .slice a4 z3 c4] 28)).cell r1
            have s2 := ((Kept.refl w7).alloc (.cells #[.bool z1, .slice a3 z2 c3, .slice a4 z3 c4] 28)).cell r2
            clear h3 h4 hk7 d50 d51 p0 p1 p2 r0 r1 r2 hra hrb
            go_wp2_with (first
              | (go_at_call 12; refine (HNU.out _).mono ?_; rintro e w8 ⟨rfl, rfl⟩)
              | (go_at_call 17; (with_reducible refine (HRT.out _ ((Kept.refl _).alloc _)).mono ?_); rintro e w9 ⟨rfl, hk9⟩))
            go_ret
            exact ⟨rfl, HK7.out.trans (((Kept.refl _).alloc _).trans hk9)⟩
      · have dm1 : decide ((60 : Int) < (m : Int)) = true := decide_eq_true (by omega)
        have gm1 : (60 : Int) < (m : Int) := by omega
        by_cases hm2 : m ≤ 1024
        · have dm2 : decide ((m : Int) ≤ 1024) = true := decide_eq_true (by omega)
          have gm2 : (m : Int) ≤ 1024 := by omega
          go_enter Tryz.func4, Tryz.ntmps4
          go_wp2_with fail
          rw [← HW2.out]
          refine (HA.out _).mono ?_
          rintro e w3 ⟨rfl, hk3⟩
          have b30 := hk3.cell b0
          have b31 := hk3.cell b1
          have HK3 := Lib.hid (HK0.out.trans hk3)
          clear hk3 b0 b1
          go_wp2_with fail
          refine (HL.out _ HK3.out).mono ?_
          rintro e w4 ⟨⟨u4, rfl, hu4⟩, hk4⟩
          obtain ⟨bb, rfl, hbb⟩ := hu4
          have b40 := hk4.cell b30
          have b41 := hk4.cell b31
          have HK4 := Lib.hid (HK3.out.trans hk4)
          have HBB := Lib.hid hbb
          clear hk4 b30 b31 hbb
          cases bb with
          | true =>
            go_wp2_with (go_at_call 6; refine (HA.out _).mono ?_; rintro e w5 ⟨rfl, hk5⟩)
            go_ret
            exact ⟨rfl, HK4.out.trans hk5⟩
          | false =>
            go_wp2_with (go_at_call 6; refine (HA.out _).mono ?_; rintro e w5 ⟨rfl, hk5⟩)
            go_ret
            exact ⟨rfl, HK4.out.trans hk5⟩
        · have dm2 : decide ((m : Int) ≤ 1024) = false := decide_eq_false (by omega)
          have gm2 : ¬ (m : Int) ≤ 1024 := by omega
          have HYY : Hid (m ≤ 60 ∨ 1024 < m) := Lib.hid (.inr (by omega))
          by_cases hs : 5000 < t
          · have ds : decide ((5000 : Int) < (t : Int)) = true := decide_eq_true (by omega)
            have gs : (5000 : Int) < (t : Int) := by omega
            go_enter Tryz.func4, Tryz.ntmps4
            go_wp2_with fail
            rw [← HW2.out]
            refine (HA.out _).mono ?_
            rintro e w3 ⟨rfl, hk3⟩
            have b30 := hk3.cell b0
            have b31 := hk3.cell b1
            have HK3 := Lib.hid (HK0.out.trans hk3)
            clear hk3 b0 b1
            go_wp2_with fail
            refine (HL.out _ HK3.out).mono ?_
            rintro e w4 ⟨⟨u4, rfl, hu4⟩, hk4⟩
            obtain ⟨bb, rfl, hbb⟩ := hu4
            have b40 := hk4.cell b30
            have b41 := hk4.cell b31
            have HK4 := Lib.hid (HK3.out.trans hk4)
            have HBB := Lib.hid hbb
            clear hk4 b30 b31 hbb
            cases bb with
            | true =>
              go_wp2_with (go_at_call 6; refine (HA.out _).mono ?_; rintro e w5 ⟨rfl, hk5⟩)
              go_ret
              exact ⟨rfl, HK4.out.trans hk5⟩
            | false =>
              go_wp2_with (go_at_call 6; refine (HA.out _).mono ?_; rintro e w5 ⟨rfl, hk5⟩)
              go_ret
              exact ⟨rfl, HK4.out.trans hk5⟩
          · have ds : decide ((5000 : Int) < (t : Int)) = false := decide_eq_false (by omega)
            have gs : ¬ (5000 : Int) < (t : Int) := by omega
            go_enter Tryz.func4, Tryz.ntmps4
            go_wp2_with fail
            rw [← HW2.out]
            refine (HA.out _).mono ?_
            rintro e w3 ⟨rfl, hk3⟩
            have b30 := hk3.cell b0
            have b31 := hk3.cell b1
            have HK3 := Lib.hid (HK0.out.trans hk3)
            clear hk3 b0 b1
            go_wp2_with fail
            refine (HL.out _ HK3.out).mono ?_
            rintro e w4 ⟨⟨u4, rfl, hu4⟩, hk4⟩
            obtain ⟨bb, rfl, hbb⟩ := hu4
            have b40 := hk4.cell b30
            have b41 := hk4.cell b31
            have HK4 := Lib.hid (HK3.out.trans hk4)
            have HBB := Lib.hid hbb
            clear hk4 b30 b31 hbb
            cases bb with
            | true =>
              go_wp2_with (go_at_call 6; refine (HA.out _).mono ?_; rintro e w5 ⟨rfl, hk5⟩)
              go_ret
              exact ⟨rfl, HK4.out.trans hk5⟩
            | false =>
              obtain ⟨h30, hs3⟩ := HBB.out rfl
              rw [← HPN.out] at h30
              have HLF := Lib.hid (HLE.out h30 hs3 HYY.out)
              have HRF := Lib.hid (HRE.out h30 hs3 HYY.out)
              clear h30 hs3
              go_wp2_with fail
              refine (HLF.out _ HK4.out).mono ?_
              rintro e w5 ⟨⟨v5, rfl, hv5⟩, hk5⟩
              have b50 := hk5.cell b40
              have b51 := hk5.cell b41
              have HK5 := Lib.hid (HK4.out.trans hk5)
              obtain ⟨u1, u2, rfl, h1, h2⟩ := hv5
              obtain ⟨a1, c1, rfl⟩ := h1.shape
              obtain ⟨a2, c2, rfl⟩ := h2.shape
              have H1 := Lib.hid h1
              have H2 := Lib.hid h2
              have d50 := ((Kept.refl w5).alloc (.cells #[.bool (canR Qr).neg, .slice a1 (canR Qr).num.length c1, .slice a2 (canR Qr).den.length c2] 28)).cell b50
              have d51 := ((Kept.refl w5).alloc (.cells #[.bool (canR Qr).neg, .slice a1 (canR Qr).num.length c1, .slice a2 (canR Qr).den.length c2] 28)).cell b51
              have p := RowAt.made w5 #[.bool (canR Qr).neg, .slice a1 (canR Qr).num.length c1, .slice a2 (canR Qr).den.length c2] 28
              have p0 := p.cell (i := 0) (by simp)
              have p1 := p.cell (i := 1) (by simp)
              have p2 := p.cell (i := 2) (by simp)
              simp only [List.getElem_cons_succ, List.getElem_cons_zero] at p0 p1 p2
              obtain ⟨w6, hw6⟩ : ∃ w6, w6 = w5.alloc (.cells #[.bool (canR Qr).neg, .slice a1 (canR Qr).num.length c1, .slice a2 (canR Qr).den.length c2] 28) := ⟨_, rfl⟩
              rw [← hw6] at p0 p1 p2
              have HK56 : Hid (Kept w5 w6) := Lib.hid (by rw [hw6]; exact (Kept.refl _).alloc _)
              have HW6 := Lib.hid hw6
              clear h1 h2 hk5 b40 b41 b50 b51 hw6 p
              generalize hz1 : (canR Qr).neg = z1 at *
              generalize hz2 : (canR Qr).num.length = z2 at *
              generalize hz3 : (canR Qr).den.length = z3 at *
              have HZ := Lib.hid (And.intro hz1 (And.intro hz2 hz3))
              clear hz1 hz2 hz3
              go_wp2_with fail
              rw [← HW6.out]
              refine (HRF.out _ (HK5.out.trans HK56.out)).mono ?_
              rintro e w7 ⟨⟨v7, rfl, hv7⟩, hk7⟩
              have r0 := hk7.cell p0
              have r1 := hk7.cell p1
              have r2 := hk7.cell p2
              have HK57 := Lib.hid (HK56.out.trans hk7)
              have HK7 := Lib.hid ((HK5.out.trans HK56.out).trans hk7)
              obtain ⟨u3, u4, rfl, h3, h4⟩ := hv7
              obtain ⟨a3, c3, rfl⟩ := h3.shape
              obtain ⟨a4, c4, rfl⟩ := h4.shape
              have hra : RatAt w7 (.agg #[.bool (canR Qr).neg, .slice a3 (canR Qr).num.length c3, .slice a4 (canR Qr).den.length c4]) (canR Qr) := ⟨_, _, rfl, h3, h4⟩
              have hrb : RatAt w7 (.agg #[.bool (canR Qr).neg, .slice a1 z2 c1, .slice a2 z3 c2]) (canR Qr) := ⟨_, _, rfl, H1.out.kept HK57.out, H2.out.kept HK57.out⟩
              rw [HZ.out.1, HZ.out.2.1, HZ.out.2.2] at hra
              rw [HZ.out.1] at hrb
              rw [HZ.out.1, HZ.out.2.1, HZ.out.2.2]
              have HRT := Lib.hid (fun W (hk : Kept w7 W) => rat_true _ _ _ W (hrb.kept hk) (hra.kept hk))
              have s0 := ((Kept.refl w7).alloc (.cells #[.bool z1, .slice a3 z2 c3, .slice a4 z3 c4] 28)).cell r0
              have s1 := ((Kept.refl w7).alloc (.cells #[.bool z1, .slice a3 z2 c3, .slice a4 z3 c4] 28)).cell r1
              have s2 := ((Kept.refl w7).alloc (.cells #[.bool z1, .slice a3 z2 c3, .slice a4 z3 c4] 28)).cell r2
              clear h3 h4 hk7 d50 d51 p0 p1 p2 r0 r1 r2 hra hrb
              go_wp2_with (first
                | (go_at_call 12; refine (HNU.out _).mono ?_; rintro e w8 ⟨rfl, rfl⟩)
                | (go_at_call 17; (with_reducible refine (HRT.out _ ((Kept.refl _).alloc _)).mono ?_); rintro e w9 ⟨rfl, hk9⟩))
              go_ret
              exact ⟨rfl, HK7.out.trans (((Kept.refl _).alloc _).trans hk9)⟩
end Go.Proofs.YteodabnjkikogaaGreat

/-
  The law TruncateLeft: for every truncation and every list of fractions the call returns true, and its arguments read as before.
-/
namespace Go.Proofs.YteodabnjkikogaaGreat
open Go.RowKit Go.ChangeShapes Go.WideShapes Go.ChangeAt Go.Joins Go.Deep

theorem cells_cut : Tryz.prog.cellsOf 34 = 2 := by kernel_rfl
set_option maxRecDepth 100000 in
/-- A truncation that came in. -/
theorem cut_open {H : Type} {enc : TypeId × Value → H} {W : World} {base : Nat} {v : Value} {d : DataW H} {p : List MemPlace} (hv : Value.okWide Tryz.prog W .any base 34 v) (hb : ∀ n ∈ d.weights Tryz.prog 34, n ≤ reachBytes)
    (h : DataW.Trod enc Tryz.prog W 0 (fun _ => true) true 34 v d p) : ∃ u1 u2 xs ys, v = .agg #[u1, u2] ∧ IntsAt W u1 xs ∧ IntsAt W u2 ys := by
  obtain ⟨v0, v1, y0, y1, n, rfl, hd, _, t0, t1⟩ := open_agg2 Tryz.underlying34 (by kernel_rfl) cells_cut hv h
  obtain ⟨u1, xs, e1, hu1, _⟩ := ints_open (fun n hn => hb n (by
    rw [hd]
    simp only [DataW.weights, Tryz.underlying34]
    simp only [List.map_cons, DataW.weightsEach, List.mem_append]
    exact .inl hn)) t0
  obtain ⟨u2, ys, e2, hu2, _⟩ := ints_open (fun n hn => hb n (by
    rw [hd]
    simp only [DataW.weights, Tryz.underlying34]
    simp only [List.map_cons, DataW.weightsEach, List.mem_append]
    exact .inr (.inl hn))) t1
  simp at e1 e2
  subst e1 e2
  exact ⟨v0, v1, xs, ys, rfl, hu1, hu2⟩
set_option maxRecDepth 100000 in
/-- A law of a truncation and a list of fractions: from its walk to its row's step. -/
theorem liftC {s : ChangeSpec} (F : FuncId) (fn : Func) (hs1 : s.vars = []) (hs2 : ∀ (H : Type) (d1 d2 : DataW H), s.fn H [d1, d2] = { results := [.lit (.bool true)], args := [d1, d2] })
    (hp : fn.params = #[34, 25]) (hr : fn.resultTypes = #[4])
    (walk : ∀ (W : World) (kv fv v : Value) (xs ys : List Int) (ps : List Rw), IntsAt W kv xs → IntsAt W fv ys → RatsRaw W v ps → Calls Tryz.prog F #[.agg #[kv, fv], v] W fun e w' => e = .returned (.bool true) ∧ Kept W w')
    {H : Type} {enc : TypeId × Value → H} (W : World) (base : Nat) (args : Array Value) (ds gs : List (DataW H)) (before : List MemPlace)
    (hval : ∀ (j : Nat) t v, fn.params[j]? = some t → args[j]? = some v → Value.okWide Tryz.prog W .any base t v)
    (hW : DataW.Whole enc Tryz.prog fn.params.toList s.vars false W args.toList ds gs before)
    (hsz : (DataW.weightsEach Tryz.prog (fn.params.toList ++ s.plain.varTypes Tryz.prog) (ds ++ gs)).all (· ≤ reachBytes) = true) :
    Calls Tryz.prog F args W fun e W' => ∃ v, e = .returned v ∧ s.post enc Tryz.prog fn false true false false W args v W' := by
  have hW' := hW
  obtain ⟨p, q, hA, hV, rfl, hfz, _⟩ := hW
  rw [hs1] at hV
  obtain ⟨rfl, rfl⟩ := trodVars_none hV
  rw [hp] at hA hval hsz
  obtain ⟨v0, v1, d0, d1, p0, p1, rfl, rfl, rfl, h0, h1⟩ := trodAll_two hA
  have h0k := h0
  have h1k := h1
  obtain ⟨u1, u2, xs, ys, rfl, hu1, hu2⟩ := cut_open (hval 0 _ _ rfl rfl) (fun n hn => by
    have := List.all_eq_true.1 hsz n (DataW.weights_mem_each (j := 0) rfl rfl n hn)
    simpa using this) h0
  obtain ⟨fuel, h1f⟩ := h1
  obtain ⟨u3, ps, e3, hps⟩ := rats_open (fun n hn => by
    have := List.all_eq_true.1 hsz n (DataW.weights_mem_each (j := 1) rfl rfl n hn)
    simpa using this) h1f
  have e4 : u3 = v1 := by
    obtain ⟨a, c, rfl, _⟩ := hps
    obtain ⟨a2, n2, c2, h5⟩ := okWide_slice Tryz.underlying25 (hval 1 _ _ rfl rfl)
    subst h5
    simpa [Value.cells] using e3.symm
  subst e4
  have hlt : ∀ x ∈ p0 ++ p1, x.block < W.heap.size := fun x hx => hW'.lt x (by simpa using hx)
  refine (walk W u1 u2 u3 xs ys ps hu1 hu2 hps).mono fun e W' ⟨he, hk⟩ => ?_
  subst he
  refine ⟨_, rfl, [d0, d1], [], (p0 ++ p1) ++ [], [], p0 ++ p1, [], hW', ?_, ?_, ?_, Below.frame hk _, fun h => by cases h⟩
  · rw [hr]
    simp only [List.append_nil, hs2]
    exact trodAll_mk1 (shut_bool Tryz.underlying4 _)
  · rw [hp]
    simp only [List.append_nil, hs2]
    exact trodAll_mk2 (Below.trod laidOutK (by kernel_rfl) (of_decide_eq_true (by kernel_rfl)) h0k hk (fun x hx => hlt x (by simp [hx]))) (Below.trod laidOutK (by kernel_rfl) (of_decide_eq_true (by kernel_rfl)) h1k hk (fun x hx => hlt x (by simp [hx])))
  · rw [hs1]
    simp only [List.append_nil, hs2]
    rfl
set_option maxRecDepth 100000 in
theorem truncateLeft_lifted (os : Os) (started : os.Started) (H : Type) (enc : TypeId × Value → H) :
    ReturnsInHanded {} Tryz.checked os 4 .any (Rows.truncateLeftSpec.pre6 enc Tryz.prog Tryz.f4 Rows.truncateLeftRow.domain false) (Rows.truncateLeftSpec.post enc Tryz.prog Tryz.f4 false true false false) := by
  refine returnsInHanded_of_change_sized (C := Tryz.checked) ownK started (by kernel_rfl) Tryz.func4
    (ChangeSpec.witness6 (enc := enc) (C := Tryz.checked) false ⟨#[], #[.agg #[.slice none 0 0, .slice none 0 0], .slice none 0 0], []⟩ 8 (by kernel_rfl) (by kernel_rfl) (by kernel_rfl) (by kernel_rfl)) ?_
  intro W base args ds gs before hval hW _ hsz _
  exact liftC 4 Tryz.f4 rfl (fun _ _ _ => rfl) Tryz.params4 (by kernel_rfl) (fun W kv fv v xs ys ps h1 h2 h3 => left_true kv fv v xs ys ps W h1 h2 h3) W base args ds gs before hval hW hsz
theorem truncateLeft_holds : Rows.TruncateLeftSaid :=
  OpenClaim.holds_of_wide 4 Tryz.f4 rfl rfl rfl rfl rfl rfl rfl ⟨rfl, rfl, rfl, rfl, rfl⟩ rfl rfl rfl rfl rfl (by kernel_rfl) Tryz.func4 (by kernel_rfl)
    (of_decide_eq_true (by kernel_rfl)) (by unfold Func.isWrapper; first | (rw [if_pos (by decide +kernel)]; kernel_rfl) | (rw [if_neg (by decide +kernel)]; exact ⟨rfl, rfl⟩))
    (fun os started H enc _ => truncateLeft_lifted os started H enc)
end Go.Proofs.YteodabnjkikogaaGreat
