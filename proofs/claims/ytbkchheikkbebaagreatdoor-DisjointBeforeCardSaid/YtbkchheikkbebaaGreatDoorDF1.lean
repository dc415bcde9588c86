import Derived.Test.YtbkchheikkbebaaGreatDoorDD1
import Derived.Test.YtbkchheikkbebaaGreatDoorDD2
import Derived.Test.YtbkchheikkbebaaGreatDoorDD3
import Derived.Test.YtbkchheikkbebaaGreatDoorDD4
import Derived.Test.YtbkchheikkbebaaGreatDoorDD5
import Derived.Test.YtbkchheikkbebaaGreatDoorDD6
import Derived.Test.YtbkchheikkbebaaGreatDoorDD7
import Derived.Test.YtbkchheikkbebaaGreatDoorDD8
import Derived.Test.YtbkchheikkbebaaGreatDoorDD9
/-
  Walk: the law DisjointBefore returns true, whatever the list and the cut.
-/
namespace Go.Proofs.YtbkchheikkbebaaGreatDoor
open Go.RowKit

theorem chkI_zero {xs : List Int} (h : chkI xs = 0) : errI xs = 0 ∧ natsI xs = sortK (natsI xs) ∧ natsI xs = minK (natsI xs) := by
  unfold chkI at h
  by_cases h1 : errI xs = 0
  · rw [if_neg (by omega)] at h
    by_cases h2 : natsI xs = sortK (natsI xs)
    · rw [if_neg (by simpa using h2)] at h
      by_cases h3 : natsI xs = minK (natsI xs)
      · exact ⟨h1, h2, h3⟩
      · rw [if_pos h3] at h; cases h
    · rw [if_pos h2] at h; cases h
  · rw [if_pos h1] at h; exact absurd h h1
theorem minK_take {L : List Nat} (h : L = minK L) (k : Nat) : L.take k = sortK (L.take k) ∧ L.take k = minK (L.take k) := by
  have hp : L.Pairwise ltK := by rw [h]; exact pair_minK L
  have ht : (L.take k).Pairwise ltK := hp.sublist (List.take_sublist _ _)
  have e1 := sortK_unique (L.take k) (L.take k) ht fun _ => Iff.rfl
  have e2 := sortK_unique (L.take k) (minK (L.take k)) (pair_minK _) fun x => ⟨mem_minK, fun hx =>
    (mem_minK_iff _ x).2 ⟨hx, fun y hy hs => ((mem_minK_iff L x).1 (by rw [← h]; exact List.mem_of_mem_take hx)).2 y (List.mem_of_mem_take hy) hs⟩⟩
  exact ⟨e1, e1.trans e2.symm⟩
theorem chkI_take {xs : List Int} (h : chkI xs = 0) (k : Nat) : chkI (xs.take k) = 0 := by
  obtain ⟨h1, h2, h3⟩ := chkI_zero h
  obtain ⟨hl, hok⟩ := chkI_ok h
  have e : natsI (xs.take k) = (natsI xs).take k := by unfold natsI; exact List.map_take
  obtain ⟨h4, h5⟩ := minK_take h3 k
  have he : errI (xs.take k) = 0 := by
    unfold errI
    rw [if_neg (by rw [List.length_take]; omega), if_pos (okI_iff.2 fun x hx => okI_iff.1 hok x (List.mem_of_mem_take hx))]
  unfold chkI
  rw [he, if_neg (by simp), e, if_neg (by simpa using h4), if_neg (by simpa using h5)]
theorem cubR_of {xs : List Int} (h : chkI xs = 0) : cubR xs = match cubesK (natsI xs) with | none => (4, []) | some l => (0, l) := by unfold cubR; rw [if_neg (by omega)]; try (cases cubesK (natsI xs) <;> rfl)
theorem cubR_before {xs : List Int} (h : chkI xs = 0) (k : Nat) (h2 : (cubR xs).1 = 0) : (cubR (xs.take k)).1 = 0 ∧ ∃ t, (cubR xs).2 = (cubR (xs.take k)).2 ++ t := by
  obtain ⟨_, hc⟩ := cubR_zero h2
  obtain ⟨a, t, h3, h4⟩ := cubes_take k hc
  have e : natsI (xs.take k) = (natsI xs).take k := by unfold natsI; exact List.map_take
  rw [cubR_of (chkI_take h k), e, h3]
  exact ⟨rfl, t, h4⟩
set_option maxRecDepth 100000 in
set_option maxHeartbeats 8000000 in
theorem dbefore_true (v : Value) (xs : List Int) (sx : Int) (w : World) (hv : IntsAt w v xs) (hx : (Lit.int .u8 sx).wf = true) :
    Calls Tryz.prog 6 #[v, .int .u8 sx] w fun e w' => e = .returned (.bool true) ∧ Kept w w' := by
  obtain ⟨s, rfl, hs⟩ : ∃ s : Nat, sx = s ∧ s < 256 := by
    have h : 0 ≤ sx ∧ sx ≤ 255 := by simpa [Lit.wf, IntKind.min, IntKind.max, IntKind.signed, IntKind.bits] using hx
    exact ⟨sx.toNat, by omega, by omega⟩
  have HA : Hid (∀ W, Calls Tryz.prog 21 #[] W fun e w' => e = .returned (.bool true) ∧ Kept W w') := Lib.hid fun W => awake38_ok W
  have HC := Lib.hid (fun W (h : Kept w W) => cubes_any v xs W (hv.kept h))
  have HF := Lib.hid (fun W (h : Kept w W) => fcheck_any v xs W (hv.kept h))
  have HV := Lib.hid hv
  obtain ⟨a, c, hvs, hvc⟩ := id hv
  obtain ⟨n, hn⟩ : ∃ n, n = xs.length := ⟨_, rfl⟩
  have hnc : n ≤ c := by rw [hn]; exact hvc.1.1
  rw [← hn] at hvs
  have HN := Lib.hid hn
  subst hvs
  have HMN : Hid (∀ W, Calls Tryz.prog 22 #[.int .i64 n, .int .i64 1024] W fun e w' => e = .returned (.bool (manyB n 1024)) ∧ w' = W) := Lib.hid fun W => many_any n 1024 W
  clear hv hx hvc
  cases hb : manyB n 1024 with
  | true =>
    rw [hb] at HMN
    clear hb hn
    go_enter Tryz.func6, Tryz.ntmps6
    go_wp2_with fail
    refine (HA.out _).mono ?_
    rintro e w1 ⟨rfl, hk1⟩
    have HK1 := Lib.hid hk1
    clear hk1
    go_wp2_with fail
    refine (HMN.out _).mono ?_
    rintro e w2 ⟨rfl, h2⟩
    rw [h2]
    clear h2
    go_wp2_with fail
    refine (HA.out _).mono ?_
    rintro e w3 ⟨rfl, hk3⟩
    go_wp2
    go_ret
    exact ⟨rfl, HK1.out.trans hk3⟩
  | false =>
    rw [hb] at HMN
    clear hb hn
    go_enter Tryz.func6, Tryz.ntmps6
    go_wp2_with fail
    refine (HA.out _).mono ?_
    rintro e w1 ⟨rfl, hk1⟩
    have HK1 := Lib.hid hk1
    clear hk1
    go_wp2_with fail
    refine (HMN.out _).mono ?_
    rintro e w2 ⟨rfl, h2⟩
    rw [h2]
    clear h2
    by_cases h0 : chkI xs = 0
    · have hn := HN.out
      rw [h0, errV_zero] at HF
      obtain ⟨hlen, hok⟩ := chkI_ok h0
      obtain ⟨hxs, hmk⟩ := nats_of hok
      have HB := Lib.hid fun k => cubR_before h0 k
      have hcr := cubR_of h0
      obtain ⟨ns, hns⟩ : ∃ ns, ns = natsI xs := ⟨_, rfl⟩
      rw [← hns] at hxs hmk hcr
      have hnl : ns.length ≤ 1024 := by rw [hns]; unfold natsI; rw [List.length_map]; exact hlen
      have hb24 : ∀ b ∈ ns, b < 16777216 := fun b hb => by have := hmk b hb; unfold Mk at this; omega
      have HCV : Hid (∀ W (t : Nat), t < 16777216 → Kept w W → Calls Tryz.prog 35 #[.slice a n c, .int .i64 t] W fun e w' => e = .returned (.tuple #[.bool (covB ns t), .nilIface]) ∧ Kept W w') := Lib.hid fun W t ht h =>
        covers_any _ ns t W ⟨by rw [← hxs]; exact HV.out.kept h, hmk⟩ (by unfold Mk; omega) hnl
      obtain ⟨k, hk⟩ : ∃ k, k = s % (n + 1) := ⟨_, rfl⟩
      have hkn : k ≤ n := by rw [hk]; exact Nat.le_of_lt_succ (Nat.mod_lt s (Nat.succ_pos n))
      have hmod : Int.tmod (s : Int) ((n : Int) + 1) = (k : Int) := by rw [hk, show (n : Int) + 1 = ((n + 1 : Nat) : Int) by omega, ← Int.ofNat_tmod]
      have HCT : Hid (∀ W, Kept w W → Calls Tryz.prog 23 #[.slice a k c] W fun e w' => (∃ v', e = .returned (.tuple #[v', errV (cubR (xs.take k)).1]) ∧ CbsAt w' v' (ofCs (cubR (xs.take k)).2)) ∧ Kept W w') := Lib.hid fun W h =>
        cubes_any _ (xs.take k) W (by have hh := HV.out.kept h; rw [HN.out] at hh; exact hh.take k (by omega))
      have HBK := Lib.hid (HB.out k)
      obtain ⟨q1, hq1⟩ : ∃ q1, q1 = (cubR (xs.take k)).1 := ⟨_, rfl⟩
      obtain ⟨out1, hout1⟩ : ∃ out1, out1 = (cubR (xs.take k)).2 := ⟨_, rfl⟩
      obtain ⟨q2, hq2⟩ : ∃ q2, q2 = (cubR xs).1 := ⟨_, rfl⟩
      obtain ⟨out2, hout2⟩ : ∃ out2, out2 = (cubR xs).2 := ⟨_, rfl⟩
      rw [← hq1, ← hout1] at HCT HBK
      rw [← hq2, ← hout2] at HC HBK
      have HQ4 : Hid (q2 ≠ 0 → q2 = 4) := Lib.hid fun h => by
        rw [hcr] at hq2
        cases hc : cubesK ns with
        | none => rw [hc] at hq2; exact hq2
        | some l => rw [hc] at hq2; exact absurd hq2 h
      have HQ0 : Hid (q2 = 0 → cubesK ns = some out2) := Lib.hid fun h => by
        rw [hns, hout2]; exact (cubR_zero (by rw [← hq2]; exact h)).2
      have hn9 : n ≤ 1024 := by omega
      have hn1 : ¬ ((n : Int) + 1 = 0) := by omega
      have hb1 : (0 : Int) ≤ (k : Int) := by omega
      have hb2 : (k : Int) ≤ (n : Int) := by omega
      have hb3 : (k : Int) ≤ (c : Int) := by omega
      have hb4 : (n : Int) ≤ (c : Int) := by omega
      have HB24 := Lib.hid hb24
      clear h0 hlen hok hxs hmk hcr hns hnl hk HB hq1 hout1 hq2 hout2 hn hb24
      go_wp2_with fail
      refine (HF.out _ HK1.out).mono ?_
      rintro e w3 ⟨rfl, hk3⟩
      have HK3 := Lib.hid (HK1.out.trans hk3)
      clear hk3
      go_wp2_with fail
      refine (HCT.out _ HK3.out).mono ?_
      rintro e w4 ⟨⟨v4, rfl, hv4⟩, hk4⟩
      have HV4 := Lib.hid hv4
      have HK4 := Lib.hid (HK3.out.trans hk4)
      obtain ⟨a4, c4, rfl⟩ := hv4.shape
      rw [ofCs_len] at HV4 ⊢
      clear hv4 hk4
      by_cases hq20 : q2 = 0
      · subst hq20
        obtain ⟨hq10, t, ht⟩ := HBK.out rfl
        subst hq10
        rw [errV_zero] at HC ⊢
        have hcu := HQ0.out rfl
        have HCO := Lib.hid (cubes_cov hcu)
        have HOK := Lib.hid (cubes_ok HB24.out hcu)
        have hol := cubes_len hcu
        obtain ⟨la, hla⟩ : ∃ la, la = out1.length := ⟨_, rfl⟩
        obtain ⟨lb, hlb⟩ : ∃ lb, lb = out2.length := ⟨_, rfl⟩
        have hab : la ≤ lb := by rw [hla, hlb, ht, List.length_append]; omega
        have HAB : Hid ((ofCs out2).take la = ofCs out1) := Lib.hid (by
          rw [ht]
          unfold ofCs
          rw [List.map_append, List.take_left' (by rw [hla, List.length_map])])
        rw [← hlb] at hol
        rw [← hla] at HV4 ⊢
        have HLA := Lib.hid hla
        have HLB := Lib.hid hlb
        have hab1 : ¬ (lb : Int) < (la : Int) := by omega
        have hab0 : ¬ lb < la := by omega
        have hab9 : decide ((lb : Int) < (la : Int)) = false := decide_eq_false hab1
        have hab8 : decide (lb < la) = false := decide_eq_false hab0
        have hab2 : (la : Int) ≤ (lb : Int) := by omega
        have hab3 : (0 : Int) ≤ (la : Int) := by omega
        clear hcu hla hlb HBK HQ4 HQ0 ht
        go_wp2_with fail
        refine (HC.out _ HK4.out).mono ?_
        rintro e w5 ⟨⟨v5, rfl, hv5⟩, hk5⟩
        have HV5 := Lib.hid hv5
        have HV4' := Lib.hid (HV4.out.kept hk5)
        have HK5 := Lib.hid (HK4.out.trans hk5)
        obtain ⟨a5, c5, hs5⟩ := hv5.shape
        have hc5 : lb ≤ c5 := by
          obtain ⟨a', c', h1, h2, _⟩ := hv5
          rw [hs5] at h1
          injection h1 with h1 h6 h7
          have h3 := h2.1
          rw [ofCs_len, ← HLB.out, ← h7] at h3
          exact h3
        rw [ofCs_len, ← HLB.out] at hs5
        subst hs5
        have hc5i : (lb : Int) ≤ (c5 : Int) := by omega
        have hc5j : (la : Int) ≤ (c5 : Int) := by omega
        have HCB : Hid (∀ W, Kept w5 W → Calls Tryz.prog 26 #[.slice a4 la c4, .slice a5 la c5] W fun e w' => e = .returned (.bool true) ∧ Kept W w') := Lib.hid fun W h =>
          cubes_true (ofCs out1) _ _ W (HV4'.out.kept h) (by
            have h2 := (HV5.out.take la (by rw [ofCs_len]; have := HLB.out; omega)).kept h
            rw [HAB.out] at h2
            exact h2)
        clear hv5 hk5 hc5
        go_wp2_with fail
        refine (HCB.out _ (Kept.refl _)).mono ?_
        rintro e w6 ⟨rfl, hk6⟩
        have HK6 := Lib.hid hk6
        clear hk6
        go_wp2_with fail
        go_loopg [69] lb (fun kx s69 wr => ∃ k : Nat, k ≤ lb ∧ s69 = .int .i64 k ∧ lb - k ≤ kx ∧ Hid (Kept w5 wr))
        case atStart => exact ⟨0, Nat.zero_le _, rfl, by omega, HK6⟩
        case round =>
          obtain ⟨j, hj, rfl, hjx, HK⟩ := hrel
          by_cases hlt : j < lb
          · have hjl : j < out2.length := by have := HLB.out; omega
            have hji : (j : Int) < (lb : Int) := by omega
            obtain ⟨b, o, rfl, g1, g2⟩ := HV5.out.get j (by rw [ofCs_len]; exact hjl)
            have x1 := HK.out.cell g1
            have x2 := HK.out.cell g2
            rw [← Nat.add_assoc] at x2
            rw [ofCs_getD hjl] at x1 x2
            obtain ⟨o1, _, _⟩ := HOK.out _ (List.getElem_mem hjl)
            have hcv := HCO.out _ (List.getElem_mem hjl)
            obtain ⟨y, z, hyz⟩ : ∃ y z, out2[j] = (y, z) := ⟨_, _, rfl⟩
            rw [hyz] at x1 x2 o1 hcv
            change wr.cell? ⟨b, o + j * 2, none⟩ = some (.int .i64 (y : Int)) at x1
            change wr.cell? ⟨b, o + j * 2 + 1, none⟩ = some (.int .i64 (z : Int)) at x2
            have HCY : Hid (∀ W, Kept w W → Calls Tryz.prog 35 #[.slice a n c, .int .i64 y] W fun e w' => e = .returned (.tuple #[.bool true, .nilIface]) ∧ Kept W w') := Lib.hid fun W h => by
              have h2 := HCV.out W y o1 h
              rw [hcv] at h2
              exact h2
            have HKW := Lib.hid (HK5.out.trans HK.out)
            clear g1 g2 hyz o1 hcv
            go_wp2_with (go_at_call 35; refine (HCY.out _ (HKW.out.alloc _)).mono ?_; rintro e w8 ⟨rfl, hk8⟩; have HK8 := Lib.hid (((Kept.refl wr).alloc _).trans hk8); clear hk8)
            go_roundg (lb - (j + 1))
            case measure => omega
            case rel => exact ⟨j + 1, by omega, by go_num, Nat.le_refl _, Lib.hid (HK.out.trans HK8.out)⟩
          · have hjb : j = lb := by omega
            subst hjb
            have hji : ¬ (j : Int) < (j : Int) := by omega
            go_wp2
            go_ret
            exact ⟨rfl, HK5.out.trans HK.out⟩
      · have hq24 := HQ4.out hq20
        subst hq24
        have e4 : errV 4 = .iface 50 (.int .i64 4) := errV_pos (by decide)
        have HIS : Hid (∀ W, Calls Tryz.prog 33 #[errV 4, .int .i64 4] W fun e w' => e = .returned (.bool true) ∧ W = w') := Lib.hid fun W => is_any 4 4 (by decide) W
        rw [e4] at HIS HC
        clear hq20 HBK HQ4 HQ0
        by_cases hq10 : q1 = 0
        · subst hq10
          rw [errV_zero]
          go_wp2_with fail
          refine (HC.out _ HK4.out).mono ?_
          rintro e w5 ⟨⟨v5, rfl, _⟩, hk5⟩
          go_wp2_with fail
          refine (HIS.out _).mono ?_
          rintro e w6 ⟨rfl, rfl⟩
          go_wp2
          go_ret
          exact ⟨rfl, HK4.out.trans hk5⟩
        · rw [errV_pos hq10]
          go_wp2_with fail
          refine (HC.out _ HK4.out).mono ?_
          rintro e w5 ⟨⟨v5, rfl, _⟩, hk5⟩
          go_wp2_with fail
          refine (HIS.out _).mono ?_
          rintro e w6 ⟨rfl, rfl⟩
          go_wp2
          go_ret
          exact ⟨rfl, HK4.out.trans hk5⟩
    · have e7 : errV (chkI xs) = .iface 50 (.int .i64 (chkI xs : Nat)) := errV_pos h0
      rw [e7] at HF
      generalize chkI xs = q at *
      clear h0 e7
      go_wp2_with fail
      refine (HF.out _ HK1.out).mono ?_
      rintro e w3 ⟨rfl, hk3⟩
      have HK3 := Lib.hid (HK1.out.trans hk3)
      clear hk3
      go_wp2_with fail
      refine (HA.out _).mono ?_
      rintro e w4 ⟨rfl, hk4⟩
      go_wp2
      go_ret
      exact ⟨rfl, HK3.out.trans hk4⟩
end Go.Proofs.YtbkchheikkbebaaGreatDoor
