import Derived.Test.YtbkchheikkbebaaGreatDoorDD1
import Derived.Test.YtbkchheikkbebaaGreatDoorDD2
import Derived.Test.YtbkchheikkbebaaGreatDoorDD3
import Derived.Test.YtbkchheikkbebaaGreatDoorDD4
import Derived.Test.YtbkchheikkbebaaGreatDoorDD5
import Derived.Test.YtbkchheikkbebaaGreatDoorDD6
import Derived.Test.YtbkchheikkbebaaGreatDoorDD7
import Derived.Test.YtbkchheikkbebaaGreatDoorDD8
import Derived.Test.YtbkchheikkbebaaGreatDoorDD9
import Derived.Test.YtbkchheikkbebaaGreatDoorDF2
/-
  Walk: the law DisjointRange returns true, whatever the cubes and the fractions. Printed by gen_I17.py.
-/
namespace Go.Proofs.YtbkchheikkbebaaGreatDoor
open Go.RowKit

set_option maxRecDepth 100000 in
set_option maxHeartbeats 16000000 in
theorem drange_true (cv v : Value) (L0 : List (Int × Int)) (ps : List Rw) (w : World) (hc : CbsRaw w cv L0) (hv : RatsRaw w v ps) : Calls Tryz.prog 9 #[cv, v] w fun e w' => e = .returned (.bool true) ∧ Kept w w' := by
  obtain ⟨Qn, hQn⟩ : ∃ Qn, Qn = (prbD L0 ps).1 := ⟨_, rfl⟩
  obtain ⟨R, hR⟩ : ∃ R, R = canR (prbD L0 ps).2 := ⟨_, rfl⟩
  have HQN := Lib.hid hQn
  have HRR := Lib.hid hR
  clear hQn hR
  have HA : Hid (∀ W, Calls Tryz.prog 21 #[] W fun e w' => e = .returned (.bool true) ∧ Kept W w') := Lib.hid fun W => awake38_ok W
  have HL := Lib.hid (fun W (h : Kept w W) => large_any v ps W (hv.kept h))
  obtain ⟨ca, cc, hcs, _, hcl, _⟩ := id hc
  obtain ⟨n, hn⟩ : ∃ n, n = L0.length := ⟨_, rfl⟩
  rw [← hn] at hcs hcl
  have HMN : Hid (∀ W, Calls Tryz.prog 22 #[.int .i64 n, .int .i64 1024] W fun e w' => e = .returned (.bool (manyB n 1024)) ∧ w' = W) := Lib.hid fun W => many_any n 1024 W
  have HSM : Hid (manyB n 1024 = false → CbsAt w cv L0) := Lib.hid fun h => hc.small (by
    unfold manyB at h
    simp only [Bool.or_eq_false_iff, decide_eq_false_iff_not] at h
    omega)
  obtain ⟨pa, pc, hps, _⟩ := id hv
  have HRV := Lib.hid hv
  obtain ⟨pn, hpn⟩ : ∃ pn, pn = ps.length := ⟨_, rfl⟩
  have hpn2 := hpn
  rw [← hpn] at hps
  subst hcs hps
  have HPN := Lib.hid hpn2
  have HNN := Lib.hid hn
  clear hc hv hn hpn hpn2
  cases hb : manyB n 1024 with
  | true =>
    rw [hb] at HMN
    clear hb
    go_enter Tryz.func9, Tryz.ntmps9
    go_wp2_with fail
    refine (HA.out _).mono ?_
    rintro e w1 ⟨rfl, hk1⟩
    have HK1 := Lib.hid hk1
    clear hk1
    go_wp2_with fail
    refine (HMN.out _).mono ?_
    rintro e w2 ⟨rfl, h2⟩
    rw [h2]
    clear h2
    go_wp2_with fail
    refine (HA.out _).mono ?_
    rintro e w3 ⟨rfl, hk3⟩
    go_wp2
    go_ret
    exact ⟨rfl, HK1.out.trans hk3⟩
  | false =>
    have HCV := Lib.hid (HSM.out hb)
    rw [hb] at HMN
    clear hb
    go_enter Tryz.func9, Tryz.ntmps9
    go_wp2_with fail
    refine (HA.out _).mono ?_
    rintro e w1 ⟨rfl, hk1⟩
    have HK1 := Lib.hid hk1
    clear hk1
    go_wp2_with fail
    refine (HMN.out _).mono ?_
    rintro e w2 ⟨rfl, h2⟩
    rw [h2]
    clear h2
    go_wp2_with fail
    refine (HL.out _ HK1.out).mono ?_
    rintro e w2 ⟨⟨u2, rfl, bb, rfl, hbb⟩, hk2⟩
    have HK2 := Lib.hid (HK1.out.trans hk2)
    have HBB := Lib.hid hbb
    clear hk2 hbb
    cases bb with
    | true =>
      go_wp2_with fail
      refine (HA.out _).mono ?_
      rintro e w3 ⟨rfl, hk3⟩
      go_wp2
      go_ret
      exact ⟨rfl, HK2.out.trans hk3⟩
    | false =>
      obtain ⟨h30, hs3⟩ := HBB.out rfl
      have HPV := Lib.hid (HRV.out.small fun r hr => ⟨Nat.le_trans (hs3 r hr).1 (by omega), Nat.le_trans (hs3 r hr).2 (by omega)⟩)
      have HS3 := Lib.hid hs3
      have H30 := Lib.hid h30
      clear h30 hs3
      have HPB : Hid (∀ W, Kept w W → Calls Tryz.prog 28 #[.slice ca n cc, .slice pa pn pc] W fun e w' => (∃ v', e = .returned (.tuple #[v', errV Qn]) ∧ RatAt w' v' R) ∧ Kept W w') := Lib.hid fun W h => by
        rw [HQN.out, HRR.out]
        exact dprob_any _ _ L0 ps W (HCV.out.kept h) (HPV.out.kept h) HS3.out H30.out
      by_cases hq0 : Qn = 0
      · subst hq0
        rw [errV_zero] at HPB
        have hz := HQN.out.symm
        have HOK := Lib.hid HPV.out.ok
        have hz4 := prbD_zero hz
        have HEA : Hid (∀ d ∈ L0, ∀ W u, Kept w W → CbsAt W u [d] → Calls Tryz.prog 28 #[u, .slice pa pn pc] W fun e w' => (∃ v', e = .returned (.tuple #[v', .nilIface]) ∧ RatAt w' v' (canR (wQs ps (natC d) ps.length))) ∧ Kept W w') := Lib.hid fun d hd W u h hu => by
          have h1 := dprob_any _ _ [d] ps W hu (HPV.out.kept h) HS3.out H30.out
          rw [prbD_one HQN.out.symm hd] at h1
          exact h1
        have HEP := Lib.hid (range_each HOK.out hz)
        have hlen := chkD_len hz4.1
        have hsum : R = canR (sumWs ps (L0.map natC) n) := by
          have h1 := HRR.out
          rw [hz4.2.2.2, List.length_map, ← HNN.out] at h1
          exact h1
        have HSUM := Lib.hid hsum
        have hRp : probR R = true := by rw [HRR.out]; exact range_all HOK.out hz
        have hSS : ∀ k, k ≤ n → (canR (sumWs ps (L0.map natC) k)).Short (362 * k + 1) := fun k hk => sumWs_short HS3.out HOK.out H30.out k (by rw [List.length_map, ← HNN.out]; exact hk)
        have HSS := Lib.hid hSS
        have hn9 : n ≤ 1024 := by rw [HNN.out]; exact hlen
        have hRs : R.Short 400000 := by
          rw [hsum]
          have h1 := hSS n (Nat.le_refl _)
          exact ⟨Nat.le_trans h1.1 (by omega), Nat.le_trans h1.2 (by omega)⟩
        have HRP : Hid (∀ W u, RatAt W u R → Calls Tryz.prog 46 #[u] W fun e w' => e = .returned (.bool true) ∧ Kept W w') := Lib.hid fun W u hu => by
          have h1 := rprob_any u R W hu ⟨Nat.le_trans hRs.1 (by omega), Nat.le_trans hRs.2 (by omega)⟩
          rw [hRp] at h1
          exact h1
        have HRC : Hid (∀ W u1 u2, RatAt W u1 R → RatAt W u2 R → Calls Tryz.prog 44 #[u1, u2] W fun e w' => e = .returned (.int .i64 0) ∧ Kept W w') := Lib.hid fun W u1 u2 h1 h2 => by
          have h3 := rcmp_any u1 u2 R R W h1 h2 ⟨Nat.le_trans hRs.1 (by omega), Nat.le_trans hRs.2 (by omega)⟩ ⟨Nat.le_trans hRs.1 (by omega), Nat.le_trans hRs.2 (by omega)⟩
          rw [Rat.sub_self] at h3
          exact h3
        have HWS := Lib.hid (fun c => wQ_short (c := c) HS3.out HOK.out ps.length (Nat.le_refl _))
        clear hz hz4 hlen hsum hRp hSS hRs
        go_wp2_with fail
        refine (HPB.out _ HK2.out).mono ?_
        rintro e w3 ⟨⟨v3, rfl, hv3⟩, hk3⟩
        have HK3 := Lib.hid (HK2.out.trans hk3)
        obtain ⟨u1, u2, rfl, h1, h2⟩ := hv3
        obtain ⟨a1, c1, rfl⟩ := h1.shape
        obtain ⟨a2, c2, rfl⟩ := h2.shape
        obtain ⟨w4, hw4⟩ : ∃ w4, w4 = w3.alloc (.cells #[.bool R.neg, .slice a1 R.num.length c1, .slice a2 R.den.length c2] 39) := ⟨_, rfl⟩
        have HV4 : Hid (RatCell w4 w3.heap.size R) := Lib.hid (by rw [hw4]; exact RatCell.made h1 h2)
        have HK4 : Hid (Kept w w4) := Lib.hid (by rw [hw4]; exact HK3.out.alloc _)
        have HS4 : Hid (w4.heap.size = w3.heap.size + 1) := Lib.hid (by rw [hw4]; simp)
        obtain ⟨w5, hw5⟩ : ∃ w5, w5 = w4.alloc (.cells #[.bool false, .slice none 0 0, .slice none 0 0] 39) := ⟨_, rfl⟩
        have HC : Hid (RatCell w5 w4.heap.size (canR (sumWs ps (L0.map natC) 0))) := Lib.hid (by rw [hw5]; exact RatCell.made (r := ⟨false, [], []⟩) (WdsAt.nil w4) (WdsAt.nil w4))
        have HK45 : Hid (Kept w4 w5) := Lib.hid (by rw [hw5]; exact (Kept.refl _).alloc _)
        have HW4 := Lib.hid hw4
        have HW5 := Lib.hid hw5
        clear h1 h2 hk3 hw4 hw5
        generalize hzR1 : R.neg = zR1 at HW4 ⊢
        generalize hzR2 : R.num.length = zR2 at HW4 ⊢
        generalize hzR3 : R.den.length = zR3 at HW4 ⊢
        clear hzR1 hzR2 hzR3
        go_wp2_with fail
        rw [← HW4.out, ← HS4.out, ← HW5.out]
        go_loopg [38] n (fun kx s38 wq => ∃ j : Nat, j ≤ n ∧ s38 = .int .i64 j ∧ n - j ≤ kx ∧ Hid (RatCell wq w4.heap.size (canR (sumWs ps (L0.map natC) j))) ∧ Hid (Kept w4 wq))
        case atStart => exact ⟨0, Nat.zero_le _, rfl, by omega, HC, HK45⟩
        case round =>
          obtain ⟨j, hj, rfl, hjx, HX, HKq⟩ := hrel
          have HKwq := Lib.hid (HK4.out.trans HKq.out)
          by_cases hjm : j < n
          · have hjl : j < L0.length := by have := HNN.out; omega
            have hji : (j : Int) < (n : Int) := by omega
            obtain ⟨b, o, rfl, g1, g2⟩ := HCV.out.get j hjl
            have hdm := getD_mem hjl
            have hst := sum_step (ps := ps) hjl
            obtain ⟨d, hd⟩ : ∃ d, d = L0.getD j default := ⟨_, rfl⟩
            rw [← hd] at g1 g2 hdm hst
            have x1 := HKwq.out.cell g1
            have x2 := HKwq.out.cell g2
            rw [← Nat.add_assoc] at x2
            have HDP := Lib.hid (HEA.out d hdm)
            have hpp := HEP.out d hdm
            have hws := HWS.out (natC d)
            obtain ⟨q, hq⟩ : ∃ q, q = canR (wQs ps (natC d) ps.length) := ⟨_, rfl⟩
            have hrq : ratOf q = wQs ps (natC d) ps.length := by rw [hq]; exact ratOf_can _
            rw [← hq] at HDP hpp hws
            have hss := HSS.out j hj
            have HAD : Hid (∀ W u1 u2, RatAt W u1 (canR (sumWs ps (L0.map natC) j)) → RatAt W u2 q → Calls Tryz.prog 47 #[u1, u2] W fun e w' => (∃ v', e = .returned v' ∧ RatAt w' v' (canR (sumWs ps (L0.map natC) (j + 1)))) ∧ Kept W w') := Lib.hid fun W u1 u2 k1 k2 => by
              have h1 := radd_any u1 u2 _ _ W k1 k2 ⟨Nat.le_trans hss.1 (by omega), Nat.le_trans hss.2 (by omega)⟩ ⟨Nat.le_trans hws.1 (by have := H30.out; omega), Nat.le_trans hws.2 (by have := H30.out; omega)⟩
              rw [ratOf_can, hrq, ← hst] at h1
              exact h1
            have HQP : Hid (∀ W u, RatAt W u q → Calls Tryz.prog 46 #[u] W fun e w' => e = .returned (.bool true) ∧ Kept W w') := Lib.hid fun W u hu => by
              have h1 := rprob_any u q W hu ⟨Nat.le_trans hws.1 (by have := H30.out; omega), Nat.le_trans hws.2 (by have := H30.out; omega)⟩
              rw [hpp] at h1
              exact h1
            obtain ⟨wo, rfl⟩ : ∃ wo : World, wo = wr := ⟨_, rfl⟩
            obtain ⟨w6, hw6⟩ : ∃ w6, w6 = wo.alloc (.cells #[.int .i64 d.1, .int .i64 d.2] 55) := ⟨_, rfl⟩
            have HK6 : Hid (Kept wo w6) := Lib.hid (by rw [hw6]; exact (Kept.refl _).alloc _)
            have HS6 : Hid (w6.heap.size = wo.heap.size + 1) := Lib.hid (by rw [hw6]; simp)
            obtain ⟨w7, hw7⟩ : ∃ w7, w7 = w6.alloc (.cells #[.int .i64 d.1, .int .i64 d.2] 55) := ⟨_, rfl⟩
            have HCB : Hid (CbsAt w7 (.slice (some ⟨w6.heap.size, 0, none⟩) 1 1) [d]) := Lib.hid (by rw [hw7]; exact cbs_one w6 d)
            have HK7 : Hid (Kept wo w7) := Lib.hid (by rw [hw7]; exact HK6.out.alloc _)
            have HW6 := Lib.hid hw6
            have HW7 := Lib.hid hw7
            clear g1 g2 hd hdm hst hpp hws hq hrq hss hw6 hw7
            generalize d.1 = d1 at *
            generalize d.2 = d2 at *
            go_wp2_with fail
            rw [← HW6.out, ← HS6.out, ← HW7.out]
            refine (HDP.out _ _ (HKwq.out.trans HK7.out) HCB.out).mono ?_
            rintro e w8 ⟨⟨v8, rfl, hv8⟩, hk8⟩
            have HK8 := Lib.hid (HK7.out.trans hk8)
            obtain ⟨u3, u4, rfl, h3, h4⟩ := hv8
            obtain ⟨a3, c3, rfl⟩ := h3.shape
            obtain ⟨a4, c4, rfl⟩ := h4.shape
            obtain ⟨w9, hw9⟩ : ∃ w9, w9 = w8.alloc (.cells #[.bool q.neg, .slice a3 q.num.length c3, .slice a4 q.den.length c4] 39) := ⟨_, rfl⟩
            have HX9 : Hid (RatCell w9 w8.heap.size q) := Lib.hid (by rw [hw9]; exact RatCell.made h3 h4)
            have HR9 : Hid (RatAt w9 (.agg #[.bool q.neg, .slice a3 q.num.length c3, .slice a4 q.den.length c4]) q) := Lib.hid (RatAt.kept ⟨_, _, rfl, h3, h4⟩ (by rw [hw9]; exact (Kept.refl _).alloc _))
            have HK9 : Hid (Kept wo w9) := Lib.hid (by rw [hw9]; exact HK8.out.alloc _)
            have HW9 := Lib.hid hw9
            clear h3 h4 hk8 hw9 x1 x2
            generalize q.neg = q1 at HW9 HR9 ⊢
            generalize q.num.length = q2 at HW9 HR9 ⊢
            generalize q.den.length = q3 at HW9 HR9 ⊢
            go_wp2_with fail
            rw [← HW9.out]
            refine (HQP.out _ _ HR9.out).mono ?_
            rintro e w10 ⟨rfl, hk10⟩
            have HK10 := Lib.hid (HK9.out.trans hk10)
            obtain ⟨a5, c5, a6, c6, ⟨x0, x3, x4⟩, _, hgl, hxa⟩ := (HX.out.kept HK10.out).at
            obtain ⟨a7, c7, a8, c8, ⟨y0, y3, y4⟩, _, hgy, hya⟩ := (HX9.out.kept hk10).at
            have HXA := Lib.hid hxa
            have HYA := Lib.hid hya
            clear hk10 hxa hya
            generalize (canR (sumWs ps (L0.map natC) j)).neg = z3 at x0 HXA
            generalize (canR (sumWs ps (L0.map natC) j)).num.length = z4 at x3 HXA
            generalize (canR (sumWs ps (L0.map natC) j)).den.length = z5 at x4 HXA
            generalize q.neg = q4 at y0 HYA
            generalize q.num.length = q5 at y3 HYA
            generalize q.den.length = q6 at y4 HYA
            go_wp2_with fail
            refine (HAD.out _ _ _ HXA.out HYA.out).mono ?_
            rintro e w11 ⟨⟨v11, rfl, hv11⟩, hk11⟩
            have HK11 := Lib.hid (HK10.out.trans hk11)
            have HX11 := Lib.hid (HX.out.kept HK11.out)
            obtain ⟨u5, u6, rfl, k5, k6⟩ := hv11
            obtain ⟨a9, c9, rfl⟩ := k5.shape
            obtain ⟨a0, c0, rfl⟩ := k6.shape
            clear x0 x3 x4 y0 y3 y4 hgl hgy
            obtain ⟨a5, c5, a6, c6, ⟨x0, x3, x4⟩, ⟨f0, f1, f2⟩, hgl, _⟩ := HX11.out.at
            have HS := Lib.hid (HX11.out.store k5 k6)
            have HKE := Lib.hid (HKq.out.trans HK11.out)
            clear hk11 k5 k6
            generalize (canR (sumWs ps (L0.map natC) (j + 1))).neg = n6 at HS ⊢
            generalize (canR (sumWs ps (L0.map natC) (j + 1))).num.length = n7 at HS ⊢
            generalize (canR (sumWs ps (L0.map natC) (j + 1))).den.length = n8 at HS ⊢
            go_wp2_with fail
            go_roundg (n - (j + 1))
            case measure => omega
            case rel => exact ⟨j + 1, by omega, by go_num, Nat.le_refl _, HS, Lib.hid (((HKE.out.store (Nat.le_refl _) _ _).store (Nat.le_refl _) _ _).store (Nat.le_refl _) _ _)⟩
          · have hje : j = n := by omega
            have hji : ¬ (j : Int) < (n : Int) := by omega
            have HXN : Hid (RatCell wr w4.heap.size R) := Lib.hid (by rw [HSUM.out, ← hje]; exact HX.out)
            have HVN := Lib.hid (HV4.out.kept HKq.out)
            clear hje
            obtain ⟨a5, c5, a6, c6, ⟨x0, x3, x4⟩, _, hgl, hxa⟩ := HVN.out.at
            have HXA := Lib.hid hxa
            clear hxa
            generalize R.neg = r4 at x0 HXA
            generalize R.num.length = r5 at x3 HXA
            generalize R.den.length = r6 at x4 HXA
            go_wp2_with fail
            refine (HRP.out _ _ HXA.out).mono ?_
            rintro e w12 ⟨rfl, hk12⟩
            have HK12 := Lib.hid hk12
            clear x0 x3 x4 hgl hk12
            obtain ⟨a5, c5, a6, c6, ⟨x0, x3, x4⟩, _, hgl, hxa⟩ := (HVN.out.kept HK12.out).at
            obtain ⟨a7, c7, a8, c8, ⟨y0, y3, y4⟩, _, hgy, hya⟩ := (HXN.out.kept HK12.out).at
            have HXA := Lib.hid hxa
            have HYA := Lib.hid hya
            clear hxa hya
            generalize R.neg = r4 at x0 HXA y0 HYA
            generalize R.num.length = r5 at x3 HXA y3 HYA
            generalize R.den.length = r6 at x4 HXA y4 HYA
            go_wp2_with fail
            refine (HRC.out _ _ _ HXA.out HYA.out).mono ?_
            rintro e w13 ⟨rfl, hk13⟩
            go_wp2
            go_ret
            exact ⟨rfl, HKwq.out.trans (HK12.out.trans hk13)⟩
      · have hR0 : R = canR 0 := by rw [HRR.out, prbD_err (by rw [← HQN.out]; exact hq0)]
        have HSG : Hid (∀ W u, RatAt W u R → Calls Tryz.prog 45 #[u] W fun e w' => e = .returned (.int .i64 0) ∧ Kept W w') := Lib.hid fun W u hu => by
          have h1 := rsign_any u R W hu (by rw [hR0]; exact ⟨Nat.zero_le _, Nat.zero_le _⟩)
          rw [hR0, ratOf_can] at h1
          exact h1
        rw [errV_pos hq0] at HPB
        clear hR0
        go_wp2_with fail
        refine (HPB.out _ HK2.out).mono ?_
        rintro e w3 ⟨⟨v3, rfl, hv3⟩, hk3⟩
        have HK3 := Lib.hid (HK2.out.trans hk3)
        have HV3 := Lib.hid hv3
        obtain ⟨u1, u2, rfl, h1, h2⟩ := hv3
        obtain ⟨a1, c1, rfl⟩ := h1.shape
        obtain ⟨a2, c2, rfl⟩ := h2.shape
        clear hk3 h1 h2
        generalize R.neg = z1 at HV3 ⊢
        generalize R.num.length = z2 at HV3 ⊢
        generalize R.den.length = z3 at HV3 ⊢
        go_wp2_with fail
        refine (HSG.out _ _ (HV3.out.kept ((Kept.refl _).alloc _))).mono ?_
        rintro e w4 ⟨rfl, hk4⟩
        go_wp2
        go_ret
        exact ⟨rfl, (HK3.out.alloc _).trans hk4⟩
end Go.Proofs.YtbkchheikkbebaaGreatDoor
