import Derived.Test.YtpaedhlacbpmpaaGreatDoorPX1
import Derived.Test.YtpaedhlacbpmpaaGreatDoorPX2
import Derived.Test.YtpaedhlacbpmpaaGreatDoorPX3
import Derived.Test.YtpaedhlacbpmpaaGreatDoorPX4
import Derived.Test.YtpaedhlacbpmpaaGreatDoorPX5
import Derived.Test.YtpaedhlacbpmpaaGreatDoorPX6
import Derived.Test.YtpaedhlacbpmpaaGreatDoorPX7
import Derived.Test.YtpaedhlacbpmpaaGreatDoorPX8
import Derived.Test.YtpaedhlacbpmpaaGreatDoorPZ1
import Derived.Test.YtpaedhlacbpmpaaGreatDoorPZ2
import Derived.Test.YtpaedhlacbpmpaaGreatDoorPZ3
import Derived.Test.YtpaedhlacbpmpaaGreatDoorPZ4
/-
  Walk: the law PolynomialSums returns true, whatever the polynomials. Printed by gen_PH.py.
-/
namespace Go.Proofs.YtpaedhlacbpmpaaGreatDoor
open Go.RowKit

set_option maxRecDepth 100000 in
set_option maxHeartbeats 16000000 in
theorem psums_true (v0 v1 : Value) (x0 x1 : List Trm) (w : World) (g0 : TrmsRaw w v0 x0) (g1 : TrmsRaw w v1 x1) :
    Calls Tryz.prog 3 #[v0, v1] w fun e w' => e = .returned (.bool true) ∧ Kept w w' := by
  have HA : Hid (∀ W, Calls Tryz.prog 10 #[] W fun e w' => e = .returned (.bool true) ∧ Kept W w') := Lib.hid fun W => awake20_ok W
  obtain ⟨ta0, tc0, hts0⟩ := g0.shape
  obtain ⟨tl0, htl0⟩ : ∃ l, l = x0.length := ⟨_, rfl⟩
  rw [← htl0] at hts0
  subst hts0
  clear htl0
  have HG0 := Lib.hid g0
  obtain ⟨Q0, hQ0⟩ : ∃ q, q = chkT x0 := ⟨_, rfl⟩
  have HQ0 := Lib.hid hQ0
  obtain ⟨ta1, tc1, hts1⟩ := g1.shape
  obtain ⟨tl1, htl1⟩ : ∃ l, l = x1.length := ⟨_, rfl⟩
  rw [← htl1] at hts1
  subst hts1
  clear htl1
  have HG1 := Lib.hid g1
  obtain ⟨Q1, hQ1⟩ : ∃ q, q = chkT x1 := ⟨_, rfl⟩
  have HQ1 := Lib.hid hQ1
  have HL : Hid (∀ W, Kept w W → Calls Tryz.prog 11 #[.slice (some ⟨W.heap.size, 0, none⟩) 2 2] (W.alloc (.cells #[.slice ta0 tl0 tc0, .slice ta1 tl1 tc1] 22)) fun e w' => (∃ b, e = .returned (.bool b) ∧ Hid (b = false → NotLg x0 ∧ NotLg x1)) ∧ Kept W w') := Lib.hid fun W hk => by
    have hka : Kept W (W.alloc (.cells #[.slice ta0 tl0 tc0, .slice ta1 tl1 tc1] 22)) := (Kept.refl _).alloc _
    have h := large20_any [(.slice ta0 tl0 tc0, x0), (.slice ta1 tl1 tc1, x1)] W.heap.size (W.alloc (.cells #[.slice ta0 tl0 tc0, .slice ta1 tl1 tc1] 22)) (fun i hi => ?_) 2 rfl (by omega)
    · exact h.mono fun e w' ⟨⟨b, h1, h2⟩, h3⟩ => ⟨⟨b, h1, Lib.hid fun hb => ⟨h2 hb (.slice ta0 tl0 tc0, x0) (by simp), h2 hb (.slice ta1 tl1 tc1, x1) (by simp)⟩⟩, hka.trans h3⟩
    · match i, hi with
      | 0, _ => exact ⟨by simp, g0.kept (hk.trans hka)⟩
      | 1, _ => exact ⟨by simp, g1.kept (hk.trans hka)⟩
  have HCK0 : Hid (NotLg x0 → ∀ W, Kept w W → Calls Tryz.prog 12 #[.slice ta0 tl0 tc0] W fun e w' => e = .returned (.int .i64 (Q0 : Nat)) ∧ Kept W w') := Lib.hid fun hn W hk => by
    rw [hQ0]
    exact refcheck20_any _ x0 W ((g0.small fun t ht => ⟨Nat.le_trans (hn.2 t ht).1 (by omega), Nat.le_trans (hn.2 t ht).2 (by omega)⟩).kept hk) fun t ht => ⟨Nat.le_trans (hn.2 t ht).1 (by omega), Nat.le_trans (hn.2 t ht).2 (by omega)⟩
  clear g0 hQ0
  have HCK1 : Hid (NotLg x1 → ∀ W, Kept w W → Calls Tryz.prog 12 #[.slice ta1 tl1 tc1] W fun e w' => e = .returned (.int .i64 (Q1 : Nat)) ∧ Kept W w') := Lib.hid fun hn W hk => by
    rw [hQ1]
    exact refcheck20_any _ x1 W ((g1.small fun t ht => ⟨Nat.le_trans (hn.2 t ht).1 (by omega), Nat.le_trans (hn.2 t ht).2 (by omega)⟩).kept hk) fun t ht => ⟨Nat.le_trans (hn.2 t ht).1 (by omega), Nat.le_trans (hn.2 t ht).2 (by omega)⟩
  clear g1 hQ1
  go_enter Tryz.func3, Tryz.ntmps3
  go_wp2_with fail
  refine (HA.out _).mono ?_
  rintro e w1 ⟨rfl, hk1⟩
  have HK1 := Lib.hid hk1
  clear hk1
  go_wp2_with fail
  refine (HL.out _ HK1.out).mono ?_
  rintro e w2 ⟨⟨b, rfl, hnl⟩, hk2⟩
  have HK2 := Lib.hid (HK1.out.trans hk2)
  clear hk2
  cases b with
  | true =>
    go_wp2_with fail
    refine (HA.out _).mono ?_
    rintro e wz ⟨rfl, hkz⟩
    go_wp2
    go_ret
    exact ⟨rfl, HK2.out.trans hkz⟩
  | false =>
    have hn := hnl.out rfl
    have HCA := Lib.hid (HCK0.out hn.1)
    have HCB := Lib.hid (HCK1.out hn.2)
    by_cases hq0 : Q0 = 0
    · obtain ⟨p, hp, hsp⟩ := small_pol HG0.out hn.1 (by rw [← HQ0.out]; exact hq0)
      subst hq0
      have hatp := HG0.out.small fun t ht => ⟨Nat.le_trans (hn.1.2 t ht).1 (by omega), Nat.le_trans (hn.1.2 t ht).2 (by omega)⟩
      rw [hp] at hatp
      by_cases hq1 : Q1 = 0
      · obtain ⟨q, hq, hsq⟩ := small_pol HG1.out hn.2 (by rw [← HQ1.out]; exact hq1)
        subst hq1
        have hatq := HG1.out.small fun t ht => ⟨Nat.le_trans (hn.2.2 t ht).1 (by omega), Nat.le_trans (hn.2.2 t ht).2 (by omega)⟩
        rw [hq] at hatq
        have HP := Lib.hid hatp
        have HQ := Lib.hid hatq
        obtain ⟨A, hA⟩ : ∃ A, A = normP (p ++ q) := ⟨_, rfl⟩
        obtain ⟨B, hB⟩ : ∃ B, B = normP (p ++ negP q) := ⟨_, rfl⟩
        obtain ⟨C, hC⟩ : ∃ C, C = normP (mulT p q) := ⟨_, rfl⟩
        have sA := hsp.add hsq (d := 100000) (by omega) (by omega) (by omega)
        have sB := hsp.sub hsq (d := 100000) (by omega) (by omega) (by omega)
        have sC := hsp.mul hsq (d := 100000) (by omega) (by omega) (by omega)
        rw [← hA] at sA
        rw [← hB] at sB
        rw [← hC] at sC
        have HAD : Hid (∀ W, Kept w W → Calls Tryz.prog 13 #[.slice ta0 tl0 tc0, .slice ta1 tl1 tc1] W fun e w' => (∃ v', e = .returned (.tuple #[v', .nilIface]) ∧ TrmsAt w' v' (polT A)) ∧ Kept W w') := Lib.hid fun W h => by
          have h1 := padd_any _ _ p q W (HP.out.kept h) (HQ.out.kept h) hsp.acc hsq.acc (hsp.sh.mono (by omega)) (hsq.sh.mono (by omega))
          rw [sA.1] at h1
          exact h1
        have HSU : Hid (∀ W, Kept w W → Calls Tryz.prog 14 #[.slice ta0 tl0 tc0, .slice ta1 tl1 tc1] W fun e w' => (∃ v', e = .returned (.tuple #[v', .nilIface]) ∧ TrmsAt w' v' (polT B)) ∧ Kept W w') := Lib.hid fun W h => by
          have h1 := psub_any _ _ p q W (HP.out.kept h) (HQ.out.kept h) hsp.acc hsq.acc (hsp.sh.mono (by omega)) (hsq.sh.mono (by omega))
          rw [sB.1] at h1
          exact h1
        have HMU : Hid (∀ W, Kept w W → Calls Tryz.prog 15 #[.slice ta0 tl0 tc0, .slice ta1 tl1 tc1] W fun e w' => (∃ v', e = .returned (.tuple #[v', .nilIface]) ∧ TrmsAt w' v' (polT C)) ∧ Kept W w') := Lib.hid fun W h => by
          have h1 := pmul_any _ _ p q W (HP.out.kept h) (HQ.out.kept h) hsp.acc hsq.acc (hsp.sh.mono (by omega)) (hsq.sh.mono (by omega))
          rw [sC.1] at h1
          exact h1
        have HRA : Hid (∀ W, Kept w W → Calls Tryz.prog 16 #[.slice ta0 tl0 tc0, .slice ta1 tl1 tc1] W fun e w' => (∃ v', e = .returned (.tuple #[v', .int .i64 0]) ∧ TrmsAt w' v' (polT A)) ∧ Kept W w') := Lib.hid fun W h => by
          rw [hA]
          exact rsum_any _ _ p q W (HP.out.kept h) (HQ.out.kept h) (hsp.mono (by omega) (by omega)) (hsq.mono (by omega) (by omega))
        have HRS : Hid (∀ W, Kept w W → Calls Tryz.prog 17 #[.slice ta0 tl0 tc0, .slice ta1 tl1 tc1] W fun e w' => (∃ v', e = .returned (.tuple #[v', .int .i64 0]) ∧ TrmsAt w' v' (polT B)) ∧ Kept W w') := Lib.hid fun W h => by
          rw [hB]
          exact rdiff_any _ _ p q W (HP.out.kept h) (HQ.out.kept h) (hsp.mono (by omega) (by omega)) (hsq.mono (by omega) (by omega))
        have HRM : Hid (∀ W, Kept w W → Calls Tryz.prog 18 #[.slice ta0 tl0 tc0, .slice ta1 tl1 tc1] W fun e w' => (∃ v', e = .returned (.tuple #[v', .int .i64 0]) ∧ TrmsAt w' v' (polT C)) ∧ Kept W w') := Lib.hid fun W h => by
          rw [hC]
          exact rprod_any _ _ p q W (HP.out.kept h) (HQ.out.kept h) (hsp.mono (by omega) (by omega)) (hsq.mono (by omega) (by omega))
        have HT1 : Hid (∀ W u1 u2, TrmsAt W u1 (polT A) → TrmsAt W u2 (polT A) → Calls Tryz.prog 20 #[u1, u2] W fun e w' => e = .returned (.bool true) ∧ Kept W w') := Lib.hid fun W u1 u2 k1 k2 => terms_true u1 u2 _ W k1 k2
        have HT2 : Hid (∀ W u1 u2, TrmsAt W u1 (polT B) → TrmsAt W u2 (polT B) → Calls Tryz.prog 20 #[u1, u2] W fun e w' => e = .returned (.bool true) ∧ Kept W w') := Lib.hid fun W u1 u2 k1 k2 => terms_true u1 u2 _ W k1 k2
        have HT3 : Hid (∀ W u1 u2, TrmsAt W u1 (polT C) → TrmsAt W u2 (polT C) → Calls Tryz.prog 20 #[u1, u2] W fun e w' => e = .returned (.bool true) ∧ Kept W w') := Lib.hid fun W u1 u2 k1 k2 => terms_true u1 u2 _ W k1 k2
        have HNU : Hid (∀ W, Calls Tryz.prog 19 #[.nilIface] W fun e w' => e = .returned (.int .i64 0) ∧ W = w') := Lib.hid fun W => num_eq 0 W (by omega)
        clear hA hB hC sA sB sC hsp hsq hp hq hatp hatq hn hnl HCK0 HCK1 HG0 HG1 HQ0 HQ1
        go_wp2_with fail
        refine (HCA.out _ HK2.out).mono ?_
        rintro e w3 ⟨rfl, hk3⟩
        have HK3 := Lib.hid (HK2.out.trans hk3)
        clear hk3
        go_wp2_with fail
        refine (HCB.out _ HK3.out).mono ?_
        rintro e w4 ⟨rfl, hk4⟩
        have HK4 := Lib.hid (HK3.out.trans hk4)
        clear hk4
        go_wp2_with fail
        refine (HAD.out _ HK4.out).mono ?_
        rintro e w5 ⟨⟨v5, rfl, hv⟩, hk⟩
        obtain ⟨a5, l5, c5, rfl⟩ := hv.slc
        have HV5 := Lib.hid hv
        have HK5 := Lib.hid (HK4.out.trans hk)
        clear hv hk
        go_wp2_with fail
        refine (HSU.out _ HK5.out).mono ?_
        rintro e w6 ⟨⟨v6, rfl, hv⟩, hk⟩
        obtain ⟨a6, l6, c6, rfl⟩ := hv.slc
        have HV6 := Lib.hid hv
        have HK6 := Lib.hid (HK5.out.trans hk)
        replace HV5 := Lib.hid (HV5.out.kept hk)
        clear hv hk
        go_wp2_with fail
        refine (HMU.out _ HK6.out).mono ?_
        rintro e w7 ⟨⟨v7, rfl, hv⟩, hk⟩
        obtain ⟨a7, l7, c7, rfl⟩ := hv.slc
        have HV7 := Lib.hid hv
        have HK7 := Lib.hid (HK6.out.trans hk)
        replace HV5 := Lib.hid (HV5.out.kept hk)
        replace HV6 := Lib.hid (HV6.out.kept hk)
        clear hv hk
        go_wp2_with fail
        refine (HRA.out _ HK7.out).mono ?_
        rintro e w8 ⟨⟨v8, rfl, hv⟩, hk⟩
        obtain ⟨a8, l8, c8, rfl⟩ := hv.slc
        have HV8 := Lib.hid hv
        have HK8 := Lib.hid (HK7.out.trans hk)
        replace HV5 := Lib.hid (HV5.out.kept hk)
        replace HV6 := Lib.hid (HV6.out.kept hk)
        replace HV7 := Lib.hid (HV7.out.kept hk)
        clear hv hk
        go_wp2_with fail
        refine (HRS.out _ HK8.out).mono ?_
        rintro e w9 ⟨⟨v9, rfl, hv⟩, hk⟩
        obtain ⟨a9, l9, c9, rfl⟩ := hv.slc
        have HV9 := Lib.hid hv
        have HK9 := Lib.hid (HK8.out.trans hk)
        replace HV5 := Lib.hid (HV5.out.kept hk)
        replace HV6 := Lib.hid (HV6.out.kept hk)
        replace HV7 := Lib.hid (HV7.out.kept hk)
        replace HV8 := Lib.hid (HV8.out.kept hk)
        clear hv hk
        go_wp2_with fail
        refine (HRM.out _ HK9.out).mono ?_
        rintro e w10 ⟨⟨v10, rfl, hv⟩, hk⟩
        obtain ⟨a10, l10, c10, rfl⟩ := hv.slc
        have HV10 := Lib.hid hv
        have HK10 := Lib.hid (HK9.out.trans hk)
        replace HV5 := Lib.hid (HV5.out.kept hk)
        replace HV6 := Lib.hid (HV6.out.kept hk)
        replace HV7 := Lib.hid (HV7.out.kept hk)
        replace HV8 := Lib.hid (HV8.out.kept hk)
        replace HV9 := Lib.hid (HV9.out.kept hk)
        clear hv hk
        go_wp2_with fail
        refine (HNU.out _).mono ?_
        rintro e wn ⟨rfl, rfl⟩
        go_wp2_with fail
        refine (HNU.out _).mono ?_
        rintro e wn ⟨rfl, rfl⟩
        go_wp2_with fail
        refine (HNU.out _).mono ?_
        rintro e wn ⟨rfl, rfl⟩
        go_wp2_with fail
        refine (HT1.out _ _ _ HV5.out HV8.out).mono ?_
        rintro e w11 ⟨rfl, hk⟩
        have HK11 := Lib.hid (HK10.out.trans hk)
        replace HV5 := Lib.hid (HV5.out.kept hk)
        replace HV6 := Lib.hid (HV6.out.kept hk)
        replace HV7 := Lib.hid (HV7.out.kept hk)
        replace HV8 := Lib.hid (HV8.out.kept hk)
        replace HV9 := Lib.hid (HV9.out.kept hk)
        replace HV10 := Lib.hid (HV10.out.kept hk)
        clear hk
        go_wp2_with fail
        refine (HT2.out _ _ _ HV6.out HV9.out).mono ?_
        rintro e w12 ⟨rfl, hk⟩
        have HK12 := Lib.hid (HK11.out.trans hk)
        replace HV5 := Lib.hid (HV5.out.kept hk)
        replace HV6 := Lib.hid (HV6.out.kept hk)
        replace HV7 := Lib.hid (HV7.out.kept hk)
        replace HV8 := Lib.hid (HV8.out.kept hk)
        replace HV9 := Lib.hid (HV9.out.kept hk)
        replace HV10 := Lib.hid (HV10.out.kept hk)
        clear hk
        go_wp2_with fail
        refine (HT3.out _ _ _ HV7.out HV10.out).mono ?_
        rintro e w13 ⟨rfl, hk⟩
        have HK13 := Lib.hid (HK12.out.trans hk)
        replace HV5 := Lib.hid (HV5.out.kept hk)
        replace HV6 := Lib.hid (HV6.out.kept hk)
        replace HV7 := Lib.hid (HV7.out.kept hk)
        replace HV8 := Lib.hid (HV8.out.kept hk)
        replace HV9 := Lib.hid (HV9.out.kept hk)
        replace HV10 := Lib.hid (HV10.out.kept hk)
        clear hk
        go_wp2
        go_ret
        exact ⟨rfl, HK13.out⟩
      · have hqb : ((Q1 : Int) != 0) = true := by simp; omega
        go_wp2_with fail
        refine (HCA.out _ HK2.out).mono ?_
        rintro e w3 ⟨rfl, hk3⟩
        have HK3 := Lib.hid (HK2.out.trans hk3)
        clear hk3
        go_wp2_with fail
        refine (HCB.out _ HK3.out).mono ?_
        rintro e w4 ⟨rfl, hk4⟩
        have HK4 := Lib.hid (HK3.out.trans hk4)
        clear hk4
        go_wp2_with fail
        refine (HA.out _).mono ?_
        rintro e wz ⟨rfl, hkz⟩
        go_wp2
        go_ret
        exact ⟨rfl, HK4.out.trans hkz⟩
    · have hqb : ((Q0 : Int) != 0) = true := by simp; omega
      go_wp2_with fail
      refine (HCA.out _ HK2.out).mono ?_
      rintro e w3 ⟨rfl, hk3⟩
      have HK3 := Lib.hid (HK2.out.trans hk3)
      clear hk3
      go_wp2_with fail
      refine (HA.out _).mono ?_
      rintro e wz ⟨rfl, hkz⟩
      go_wp2
      go_ret
      exact ⟨rfl, HK3.out.trans hkz⟩
end Go.Proofs.YtpaedhlacbpmpaaGreatDoor
