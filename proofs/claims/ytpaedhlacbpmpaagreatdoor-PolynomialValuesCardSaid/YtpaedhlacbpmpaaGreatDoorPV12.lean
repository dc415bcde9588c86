import Derived.Test.YtpaedhlacbpmpaaGreatDoorPX1
import Derived.Test.YtpaedhlacbpmpaaGreatDoorPX2
import Derived.Test.YtpaedhlacbpmpaaGreatDoorPX3
import Derived.Test.YtpaedhlacbpmpaaGreatDoorPX4
import Derived.Test.YtpaedhlacbpmpaaGreatDoorPX5
import Derived.Test.YtpaedhlacbpmpaaGreatDoorPX6
import Derived.Test.YtpaedhlacbpmpaaGreatDoorPX7
import Derived.Test.YtpaedhlacbpmpaaGreatDoorPV8
import Derived.Test.YtpaedhlacbpmpaaGreatDoorPV11
/-
  Walk: the law PolynomialValues, the event good. Printed by gen_PH.py.
-/
namespace Go.Proofs.YtpaedhlacbpmpaaGreatDoor
open Go.RowKit

set_option maxRecDepth 100000 in
set_option maxHeartbeats 16000000 in
theorem pvalues_ok (v0 v1 : Value) (x0 : List Trm) (x1 : List Rw) (x2 y2 : Int) (w : World) (g0 : TrmsRaw w v0 x0) (g1 : RatsRaw w v1 x1) (hy0 : 0 ≤ y2) (hy1 : y2 < 24) :
    Calls Tryz.prog 7 #[v0, v1, .agg #[.int .i64 x2, .int .i64 y2]] w fun e w' => e = .returned (.bool true) ∧ Kept w w' := by
  obtain ⟨i, rfl⟩ : ∃ i : Nat, y2 = i := ⟨y2.toNat, by omega⟩
  have hi : i < 24 := by omega
  have hyn : ¬ (i : Int) < 0 := by omega
  have hym : ¬ (24 : Int) ≤ (i : Int) := by omega
  have hyd : decide ((i : Int) < 0) = false := decide_eq_false hyn
  have hye : decide (24 ≤ (i : Int)) = false := decide_eq_false hym
  have HA : Hid (∀ W, Calls Tryz.prog 10 #[] W fun e w' => e = .returned (.bool true) ∧ Kept W w') := Lib.hid fun W => awake20_ok W
  obtain ⟨ta0, tc0, hts0⟩ := g0.shape
  obtain ⟨tl0, htl0⟩ : ∃ l, l = x0.length := ⟨_, rfl⟩
  rw [← htl0] at hts0
  subst hts0
  clear htl0
  have HG0 := Lib.hid g0
  obtain ⟨Q0, hQ0⟩ : ∃ q, q = chkT x0 := ⟨_, rfl⟩
  have HQ0 := Lib.hid hQ0
  have HL : Hid (∀ W, Kept w W → Calls Tryz.prog 11 #[.slice (some ⟨W.heap.size, 0, none⟩) 1 1] (W.alloc (.cells #[.slice ta0 tl0 tc0] 22)) fun e w' => (∃ b, e = .returned (.bool b) ∧ Hid (b = false → NotLg x0)) ∧ Kept W w') := Lib.hid fun W hk => by
    have hka : Kept W (W.alloc (.cells #[.slice ta0 tl0 tc0] 22)) := (Kept.refl _).alloc _
    have h := large20_any [(.slice ta0 tl0 tc0, x0)] W.heap.size (W.alloc (.cells #[.slice ta0 tl0 tc0] 22)) (fun i hi => ?_) 1 rfl (by omega)
    · exact h.mono fun e w' ⟨⟨b, h1, h2⟩, h3⟩ => ⟨⟨b, h1, Lib.hid fun hb => h2 hb (.slice ta0 tl0 tc0, x0) (by simp)⟩, hka.trans h3⟩
    · match i, hi with
      | 0, _ => exact ⟨by simp, g0.kept (hk.trans hka)⟩
  have HCR0 : Hid (NotLg x0 → ∀ W, Kept w W → Calls Tryz.prog 12 #[.slice ta0 tl0 tc0] W fun e w' => e = .returned (.int .i64 (Q0 : Nat)) ∧ Kept W w') := Lib.hid fun hn W hk => by
    rw [hQ0]
    exact refcheck20_any _ x0 W ((g0.small fun t ht => ⟨Nat.le_trans (hn.2 t ht).1 (by omega), Nat.le_trans (hn.2 t ht).2 (by omega)⟩).kept hk) fun t ht => ⟨Nat.le_trans (hn.2 t ht).1 (by omega), Nat.le_trans (hn.2 t ht).2 (by omega)⟩
  have HSP0 : Hid (NotLg x0 → Q0 = 0 → ∃ p, Sm 4 40 p ∧ TrmsAt w (.slice ta0 tl0 tc0) (polT p)) := Lib.hid fun hn hq => by
    obtain ⟨p, hp, hsp⟩ := small_pol g0 hn (by rw [← hQ0]; exact hq)
    have hatp := g0.small fun t ht => ⟨Nat.le_trans (hn.2 t ht).1 (by omega), Nat.le_trans (hn.2 t ht).2 (by omega)⟩
    rw [hp] at hatp
    exact ⟨p, hsp, hatp⟩
  clear g0 hQ0
  have HG1 := Lib.hid g1
  obtain ⟨va, vc, rfl, ⟨hvc, _⟩, hvl, hvx⟩ := g1
  obtain ⟨m, hm⟩ : ∃ m, m = x1.length := ⟨_, rfl⟩
  rw [← hm] at hvc hvl ⊢
  rw [← hm] at HG1
  have HVX := Lib.hid hvx
  have HM := Lib.hid hm
  clear hvx hm
  obtain ⟨w0, hw0⟩ : ∃ w0, w0 = w.alloc (.cells #[.int .i64 x2, .int .i64 i] 56) := ⟨_, rfl⟩
  have HX0 : Hid (RowAt w0 w.heap.size 56 [.int .i64 x2, .int .i64 i]) := Lib.hid (by rw [hw0]; exact RowAt.made w #[.int .i64 x2, .int .i64 i] 56)
  have HK0 : Hid (Kept w w0) := Lib.hid (by rw [hw0]; exact (Kept.refl _).alloc _)
  have HW0 := Lib.hid hw0
  clear hw0
  go_enter Tryz.func7, Tryz.ntmps7
  go_wp2_with fail
  rw [← HW0.out]
  refine (HA.out _).mono ?_
  rintro e w1 ⟨rfl, hk1⟩
  have HX1 := Lib.hid (HX0.out.kept hk1)
  have HK1 := Lib.hid (HK0.out.trans hk1)
  clear hk1
  go_wp2_with fail
  refine (HL.out _ HK1.out).mono ?_
  rintro e w2 ⟨⟨b, rfl, hnl⟩, hk2⟩
  have HX2 := Lib.hid (HX1.out.kept hk2)
  have HK2 := Lib.hid (HK1.out.trans hk2)
  clear hk2
  cases b with
  | true =>
    go_wp2_with fail
    refine (HA.out _).mono ?_
    rintro e wz ⟨rfl, hkz⟩
    go_wp2
    go_ret
    exact ⟨rfl, HK2.out.trans hkz⟩
  | false =>
    have hn := hnl.out rfl
    have HCR := Lib.hid (HCR0.out hn)
    by_cases hq : Q0 = 0
    · obtain ⟨p, hsp, hatp⟩ := HSP0.out hn hq
      have hqi : ((Q0 : Int) != 0) = false := by rw [hq]; rfl
      have HP := Lib.hid hatp
      have HSP := Lib.hid hsp
      clear hsp hatp hn hnl HCR0 HSP0
      by_cases hm30 : 30 < m
      · have hmi : (30 : Int) < (m : Int) := by omega
        go_wp2_with fail
        refine (HCR.out _ HK2.out).mono ?_
        rintro e w3 ⟨rfl, hk3⟩
        have HK3 := Lib.hid (HK2.out.trans hk3)
        clear hk3
        go_wp2_with fail
        refine (HA.out _).mono ?_
        rintro e wz ⟨rfl, hkz⟩
        go_wp2
        go_ret
        exact ⟨rfl, HK3.out.trans hkz⟩
      · have hmi : ¬ (30 : Int) < (m : Int) := by omega
        go_wp2_with fail
        refine (HCR.out _ HK2.out).mono ?_
        rintro e w3 ⟨rfl, hk3⟩
        have HX3 := Lib.hid (HX2.out.kept hk3)
        have HK3 := Lib.hid (HK2.out.trans hk3)
        clear hk3
        go_wp2_with fail
        go_loopg [42] m (fun kx sj wr => ∃ j : Nat, j ≤ m ∧ sj = .int .i64 j ∧ m - j ≤ kx ∧ Hid (Kept w3 wr) ∧ Hid (∀ r ∈ x1.take j, r.Short 4))
        case atStart => exact ⟨0, Nat.zero_le _, rfl, by omega, Lib.hid (Kept.refl _), Lib.hid (fun r hr => by cases hr)⟩
        case round =>
          obtain ⟨k, hk, rfl, hkx, HKr, HF⟩ := hrel
          obtain ⟨wi, rfl⟩ : ∃ wi : World, wi = wr := ⟨_, rfl⟩
          have HKw := Lib.hid (HK3.out.trans HKr.out)
          by_cases hlt : k < m
          · have hkl : k < x1.length := by have := HM.out; omega
            have hkn : (k : Int) < (m : Int) := by omega
            have hk0 : (0 : Int) ≤ (k : Int) := by omega
            obtain ⟨b, o, u1, u2, rfl, hrg, hw1, hw2⟩ := HVX.out k hkl
            obtain ⟨r, hr⟩ : ∃ r, r = x1[k] := ⟨_, rfl⟩
            rw [← hr] at hrg hw1 hw2
            have HR := Lib.hid hr
            have HRG0 := range_same hrg HKw.out
            obtain ⟨a1, c1, rfl, hl1⟩ := hw1.shape
            obtain ⟨a2, c2, rfl, hl2⟩ := hw2.shape
            have HNX : Hid (r.Short 4 → ∀ x ∈ x1.take (k + 1), x.Short 4) := Lib.hid fun h x hx => by
              rw [List.take_succ_eq_append_getElem hkl] at hx
              rcases List.mem_append.1 hx with hx | hx
              · exact HF.out x hx
              · simp at hx; rw [hx, ← HR.out]; exact h
            have HSH : Hid (r.num.length ≤ 4 → r.den.length ≤ 4 → r.Short 4) := Lib.hid fun h1 h2 => ⟨h1, h2⟩
            obtain ⟨n1, hn1⟩ : ∃ n1, n1 = r.num.length := ⟨_, rfl⟩
            obtain ⟨n2, hn2⟩ : ∃ n2, n2 = r.den.length := ⟨_, rfl⟩
            rw [← hn1] at HRG0 hl1 HSH
            rw [← hn2] at HRG0 hl2 HSH
            have HRG : Hid (wi.rangeAt b (o + k * 3) [.bool r.neg, .slice a1 n1 c1, .slice a2 n2 c2]) := Lib.hid HRG0
            have HKE : Hid (Kept w3 (wi.alloc (.cells #[.bool r.neg, .slice a1 n1 c1, .slice a2 n2 c2] 38))) := Lib.hid (HKr.out.alloc _)
            clear hr hrg hw1 hw2 HRG0 hn1 hn2
            by_cases h1 : 4 < n1
            · have e1 : (4 : Int) < (n1 : Int) := by omega
              go_wp2_with (with_reducible refine wpList_load_mid rfl 38 _ rfl b (o + k * 3) rfl _ _ HRG.out Tryz.underlying38 rfl (by kernel_rfl) ?_)
              go_ret
              exact ⟨rfl, HK3.out.trans HKE.out⟩
            · have e1 : ¬ (4 : Int) < (n1 : Int) := by omega
              have d1 : decide ((4 : Int) < (n1 : Int)) = false := decide_eq_false e1
              by_cases h2 : 4 < n2
              · have e2 : (4 : Int) < (n2 : Int) := by omega
                have d2 : decide ((4 : Int) < (n2 : Int)) = true := decide_eq_true e2
                go_wp2_with (with_reducible refine wpList_load_mid rfl 38 _ rfl b (o + k * 3) rfl _ _ HRG.out Tryz.underlying38 rfl (by kernel_rfl) ?_)
                go_ret
                exact ⟨rfl, HK3.out.trans HKE.out⟩
              · have e2 : ¬ (4 : Int) < (n2 : Int) := by omega
                have d2 : decide ((4 : Int) < (n2 : Int)) = false := decide_eq_false e2
                have HS4 := Lib.hid (HNX.out (HSH.out (by omega) (by omega)))
                go_wp2_with (with_reducible refine wpList_load_mid rfl 38 _ rfl b (o + k * 3) rfl _ _ HRG.out Tryz.underlying38 rfl (by kernel_rfl) ?_)
                go_roundg (m - (k + 1))
                case measure => omega
                case rel => exact ⟨k + 1, by omega, by go_num, Nat.le_refl _, HKE, HS4⟩
          · have hkn : ¬ (k : Int) < (m : Int) := by omega
            have hke : k = x1.length := by have := HM.out; omega
            have HS4 : Hid (∀ r ∈ x1, r.Short 4) := Lib.hid (by have h := HF.out; rw [hke, List.take_length] at h; exact h)
            have HX4 := Lib.hid (HX3.out.kept HKr.out)
            have HK4 := Lib.hid (HK3.out.trans HKr.out)
            obtain ⟨w4, rfl⟩ : ∃ w4 : World, w4 = wi := ⟨_, rfl⟩
            clear hke hkx HF
            have hXR : RatsAt w (.slice va m vc) x1 := HG1.out.small fun r hr => ⟨Nat.le_trans (HS4.out r hr).1 (by omega), Nat.le_trans (HS4.out r hr).2 (by omega)⟩
            have hsp := HSP.out
            have hsm : Sm 1000 64 p := hsp.mono (by omega) (by omega)
            have hm30' : x1.length ≤ 30 := by have := HM.out; omega
            obtain ⟨QE, hQE⟩ : ∃ q : Nat, q = if ∀ t ∈ p, gtK t.1 < (x1.length : Int) then 0 else 11 := ⟨_, rfl⟩
            obtain ⟨RE, hRE⟩ : ∃ r : Rw, r = if ∀ t ∈ p, gtK t.1 < (x1.length : Int) then canR (evQ x1 p) else ⟨false, [], []⟩ := ⟨_, rfl⟩
            have HPE : Hid (∀ W, Kept w W → Calls Tryz.prog 34 #[.slice ta0 tl0 tc0, .slice va m vc] W fun e w' => (∃ v', e = .returned (.tuple #[v', errV QE]) ∧ RatAt w' v' RE) ∧ Kept W w') := Lib.hid fun W h => by
              refine (peval_all _ _ p x1 W (HP.out.kept h) (hXR.kept h) hsp.acc (hsp.sh.mono (by omega)) HS4.out hm30').mono fun e w' ⟨he, hk⟩ => ⟨?_, hk⟩
              rcases he with ⟨v', h1, rfl, h2⟩ | ⟨h1, rfl⟩
              · rw [if_pos h1] at hQE hRE
                rw [hQE, hRE]
                exact ⟨v', rfl, h2⟩
              · rw [if_neg h1] at hQE hRE
                rw [hQE, hRE]
                exact ⟨_, rfl, _, _, rfl, WdsAt.nil w', WdsAt.nil w'⟩
            have HRE : Hid (∀ W, Kept w W → Calls Tryz.prog 35 #[.slice ta0 tl0 tc0, .slice va m vc] W fun e w' => (∃ v', e = .returned (.tuple #[v', .int .i64 QE]) ∧ RatAt w' v' RE) ∧ Kept W w') := Lib.hid fun W h => by
              refine (reval_any _ _ p x1 W (HP.out.kept h) (hXR.kept h) hsm HS4.out).mono fun e w' ⟨he, hk⟩ => ⟨?_, hk⟩
              rcases he with ⟨v', h1, rfl, h2⟩ | ⟨h1, rfl⟩
              · rw [if_pos h1] at hQE hRE
                rw [hQE, hRE]
                exact ⟨v', rfl, h2⟩
              · rw [if_neg h1] at hQE hRE
                rw [hQE, hRE]
                exact ⟨_, rfl, _, _, rfl, WdsAt.nil w', WdsAt.nil w'⟩
            have HNU : Hid (∀ W, Calls Tryz.prog 19 #[errV QE] W fun e w' => e = .returned (.int .i64 QE) ∧ Kept W w') := Lib.hid fun W => (num_eq QE W (by rw [hQE]; split <;> omega)).mono fun _ _ ⟨h1, h2⟩ => ⟨h1, by rw [← h2]; exact Kept.refl _⟩
            have HRA : Hid (∀ W u1 u2, RatAt W u1 RE → RatAt W u2 RE → Calls Tryz.prog 36 #[u1, u2] W fun e w' => e = .returned (.bool true) ∧ Kept W w') := Lib.hid fun W u1 u2 k1 k2 => rat_true u1 u2 RE W k1 k2
            obtain ⟨D, hD⟩ : ∃ D, D = normP (derT i p) := ⟨_, rfl⟩
            obtain ⟨A, hA⟩ : ∃ A, A = normP (resT i false p) := ⟨_, rfl⟩
            obtain ⟨B, hB⟩ : ∃ B, B = normP (resT i true p) := ⟨_, rfl⟩
            have sD := hsp.der i (d := 201) (by omega) (by omega) (by omega)
            have sA := hsp.res i false (d := 201) (by omega) (by omega) (by omega)
            have sB := hsp.res i true (d := 201) (by omega) (by omega) (by omega)
            rw [← hD] at sD
            rw [← hA] at sA
            rw [← hB] at sB
            have HDE : Hid (∀ W, Kept w W → Calls Tryz.prog 27 #[.slice ta0 tl0 tc0, .int .i64 i] W fun e w' => (∃ v', e = .returned (.tuple #[v', .nilIface]) ∧ TrmsAt w' v' (polT D)) ∧ Kept W w') := Lib.hid fun W h => by
              have h1 := pderive_any _ p i W (HP.out.kept h) hsp.acc (hsp.sh.mono (by omega)) hi
              rw [← hD, sD.1] at h1
              exact h1
            have HR0 : Hid (∀ W, Kept w W → Calls Tryz.prog 28 #[.slice ta0 tl0 tc0, .int .i64 i, .bool false] W fun e w' => (∃ v', e = .returned (.tuple #[v', .nilIface]) ∧ TrmsAt w' v' (polT A)) ∧ Kept W w') := Lib.hid fun W h => by
              have h1 := prestrict_any _ p i false W (HP.out.kept h) hsp.acc (hsp.sh.mono (by omega)) hi
              rw [← hA, sA.1] at h1
              exact h1
            have HR1 : Hid (∀ W, Kept w W → Calls Tryz.prog 28 #[.slice ta0 tl0 tc0, .int .i64 i, .bool true] W fun e w' => (∃ v', e = .returned (.tuple #[v', .nilIface]) ∧ TrmsAt w' v' (polT B)) ∧ Kept W w') := Lib.hid fun W h => by
              have h1 := prestrict_any _ p i true W (HP.out.kept h) hsp.acc (hsp.sh.mono (by omega)) hi
              rw [← hB, sB.1] at h1
              exact h1
            have HFD : Hid (∀ W, Kept w W → Calls Tryz.prog 39 #[.slice ta0 tl0 tc0, .int .i64 i] W fun e w' => (∃ v', e = .returned v' ∧ TrmsAt w' v' (polT D)) ∧ Kept W w') := Lib.hid fun W h => by
              rw [hD]
              exact rderive_any _ p i W (HP.out.kept h) hsm hi
            have HF0 : Hid (∀ W, Kept w W → Calls Tryz.prog 40 #[.slice ta0 tl0 tc0, .int .i64 i, .bool false] W fun e w' => (∃ v', e = .returned v' ∧ TrmsAt w' v' (polT A)) ∧ Kept W w') := Lib.hid fun W h => by
              rw [hA]
              exact rrestrict_any _ p i false W (HP.out.kept h) hsm hi
            have HF1 : Hid (∀ W, Kept w W → Calls Tryz.prog 40 #[.slice ta0 tl0 tc0, .int .i64 i, .bool true] W fun e w' => (∃ v', e = .returned v' ∧ TrmsAt w' v' (polT B)) ∧ Kept W w') := Lib.hid fun W h => by
              rw [hB]
              exact rrestrict_any _ p i true W (HP.out.kept h) hsm hi
            have HTD : Hid (∀ W u1 u2, TrmsAt W u1 (polT D) → TrmsAt W u2 (polT D) → Calls Tryz.prog 20 #[u1, u2] W fun e w' => e = .returned (.bool true) ∧ Kept W w') := Lib.hid fun W u1 u2 k1 k2 => terms_true u1 u2 _ W k1 k2
            have HTA : Hid (∀ W u1 u2, TrmsAt W u1 (polT A) → TrmsAt W u2 (polT A) → Calls Tryz.prog 20 #[u1, u2] W fun e w' => e = .returned (.bool true) ∧ Kept W w') := Lib.hid fun W u1 u2 k1 k2 => terms_true u1 u2 _ W k1 k2
            have HTB : Hid (∀ W u1 u2, TrmsAt W u1 (polT B) → TrmsAt W u2 (polT B) → Calls Tryz.prog 20 #[u1, u2] W fun e w' => e = .returned (.bool true) ∧ Kept W w') := Lib.hid fun W u1 u2 k1 k2 => terms_true u1 u2 _ W k1 k2
            clear hD hA hB sD sA sB
            by_cases hx0 : x2 < 0
            · have hx : x2 < 0 ∨ 16777216 ≤ x2 := .inl hx0
              have hxd : decide (x2 < 0) = true := decide_eq_true hx0
              have HPV : Hid (∀ W, Kept w W → Calls Tryz.prog 22 #[.slice ta0 tl0 tc0, .int .i64 x2] W fun e w' => (∃ v', e = .returned (.tuple #[v', .iface 50 (.int .i64 3)]) ∧ RatAt w' v' ⟨false, [], []⟩) ∧ Kept W w') := Lib.hid fun W h => by
                refine (pvalue_range _ (polT p) x2 W (HP.out.kept h) (hsp.sh.mono (by omega)).t (chkT_pol hsp.acc) hx).mono fun e w' ⟨he, hk⟩ => ⟨⟨_, he, _, _, rfl, WdsAt.nil w', WdsAt.nil w'⟩, hk⟩
              have HI3 : Hid (∀ W, Calls Tryz.prog 32 #[.iface 50 (.int .i64 3), .int .i64 3] W fun e w' => e = .returned (.bool true) ∧ W = w') := Lib.hid fun W => by
                have h := is_any 3 3 (by decide) W
                exact h
              have HSG : Hid (∀ W u, RatAt W u ⟨false, [], []⟩ → Calls Tryz.prog 37 #[u] W fun e w' => e = .returned (.int .i64 0) ∧ Kept W w') := Lib.hid fun W u hu => by
                have h := rsign_any u _ W hu ⟨by simp, by simp⟩
                have e0 : sgnR (ratOf ⟨false, [], []⟩) = 0 := by decide +kernel
                rw [e0] at h
                exact h
              clear hXR hsp hsm hm30' hQE hRE
              go_wp2_with fail
              refine (HPE.out _ HK4.out).mono ?_
              rintro e w5 ⟨⟨v, rfl, hv⟩, hk⟩
              obtain ⟨n5, l5, m5, a5, c5, b5, d5, w6, rfl, hw, hc, hk2, hr, _⟩ := hv.box
              have HC6 := Lib.hid hc
              have HW6 := Lib.hid hw
              have hk3 := hk.trans hk2
              have HK6 := Lib.hid (HK4.out.trans hk3)
              replace HX4 := Lib.hid (HX4.out.kept hk3)
              clear hv hk hw hc hk2 hr hk3
              go_wp2_with fail
              rw [← HW6.out]
              refine (HRE.out _ HK6.out).mono ?_
              rintro e w7 ⟨⟨v, rfl, hv⟩, hk⟩
              obtain ⟨n7, l7, m7, a7, c7, b7, d7, w8, rfl, hw, hc, hk2, hr, _⟩ := hv.box
              have HC8 := Lib.hid hc
              have HW8 := Lib.hid hw
              have hk3 := hk.trans hk2
              have HK8 := Lib.hid (HK6.out.trans hk3)
              replace HX4 := Lib.hid (HX4.out.kept hk3)
              replace HC6 := Lib.hid (HC6.out.kept hk3)
              clear hv hk hw hc hk2 hr hk3
              go_wp2_with fail
              rw [← HW8.out]
              refine (HNU.out _).mono ?_
              rintro e w9 ⟨rfl, hk⟩
              have HK9 := Lib.hid (HK8.out.trans hk)
              replace HX4 := Lib.hid (HX4.out.kept hk)
              have HC9a := Lib.hid (HC6.out.kept hk)
              have HC9b := Lib.hid (HC8.out.kept hk)
              clear hk
              obtain ⟨ra1, ra2, ra3, ra4, ra5, ra6, ra7, yra0, yra1, yra2, hlra, HRra⟩ := HC9a.out.read
              obtain ⟨rb1, rb2, rb3, rb4, rb5, rb6, rb7, yrb0, yrb1, yrb2, hlrb, HRrb⟩ := HC9b.out.read
              go_wp2_with fail
              refine (HRA.out _ _ _ HRra.out HRrb.out).mono ?_
              rintro e w10 ⟨rfl, hk⟩
              have HK10 := Lib.hid (HK9.out.trans hk)
              replace HX4 := Lib.hid (HX4.out.kept hk)
              clear hk yra0 yra1 yra2 yrb0 yrb1 yrb2 hlra hlrb HRra HRrb HC6 HC8 HC9a HC9b
              obtain ⟨q0, q1⟩ := row2_at HX4.out
              go_wp2_with fail
              refine (HPV.out _ HK10.out).mono ?_
              rintro e w11 ⟨⟨v, rfl, hv⟩, hk⟩
              obtain ⟨n11, l11, m11, a11, c11, b11, d11, w12, rfl, hw, hc, hk2, hr, _⟩ := hv.box
              have HC12 := Lib.hid hc
              have HW12 := Lib.hid hw
              have hk3 := hk.trans hk2
              have HK12 := Lib.hid (HK10.out.trans hk3)
              replace HX4 := Lib.hid (HX4.out.kept hk3)
              clear hv hk hw hc hk2 hr hk3
              clear q0 q1
              obtain ⟨q0, q1⟩ := row2_at HX4.out
              go_upto_region 14 with fail
              rw [← HW12.out]
              go_wp2_with fail
              refine (HI3.out _).mono ?_
              rintro e w13 ⟨rfl, hk13⟩
              have HK13 : Hid (Kept w w13) := Lib.hid (by rw [← hk13]; exact HK12.out)
              have HC13 : Hid (RatCell w13 w11.heap.size ⟨false, [], []⟩) := Lib.hid (by rw [← hk13]; exact HC12.out)
              replace HX4 : Hid (RowAt w13 w.heap.size 56 [.int .i64 x2, .int .i64 i]) := Lib.hid (by rw [← hk13]; exact HX4.out)
              clear hk13
              obtain ⟨ra1, ra2, ra3, ra4, ra5, ra6, ra7, yra0, yra1, yra2, hlra, HRra⟩ := HC13.out.read
              go_wp2_with fail
              refine (HSG.out _ _ HRra.out).mono ?_
              rintro e w14 ⟨rfl, hk⟩
              have HK14 := Lib.hid (HK13.out.trans hk)
              replace HX4 := Lib.hid (HX4.out.kept hk)
              clear hk yra0 yra1 yra2 hlra HRra q0 q1
              obtain ⟨q0, q1⟩ := row2_at HX4.out
              go_wp2_with fail
              refine (HDE.out _ HK14.out).mono ?_
              rintro e w15 ⟨⟨v15, rfl, hv⟩, hk⟩
              obtain ⟨a15, l15, c15, rfl⟩ := hv.slc
              have HV15 := Lib.hid hv
              have HK15 := Lib.hid (HK14.out.trans hk)
              clear hv hk
              clear q0 q1
              go_wp2_with fail
              refine (HR0.out _ HK15.out).mono ?_
              rintro e w16 ⟨⟨v16, rfl, hv⟩, hk⟩
              obtain ⟨a16, l16, c16, rfl⟩ := hv.slc
              have HV16 := Lib.hid hv
              have HK16 := Lib.hid (HK15.out.trans hk)
              replace HV15 := Lib.hid (HV15.out.kept hk)
              clear hv hk
              go_wp2_with fail
              refine (HR1.out _ HK16.out).mono ?_
              rintro e w17 ⟨⟨v17, rfl, hv⟩, hk⟩
              obtain ⟨a17, l17, c17, rfl⟩ := hv.slc
              have HV17 := Lib.hid hv
              have HK17 := Lib.hid (HK16.out.trans hk)
              replace HV15 := Lib.hid (HV15.out.kept hk)
              replace HV16 := Lib.hid (HV16.out.kept hk)
              clear hv hk
              go_wp2_with fail
              refine (HFD.out _ HK17.out).mono ?_
              rintro e w18 ⟨⟨v18, rfl, hv⟩, hk⟩
              have HV18 := Lib.hid hv
              have HK18 := Lib.hid (HK17.out.trans hk)
              replace HV15 := Lib.hid (HV15.out.kept hk)
              replace HV16 := Lib.hid (HV16.out.kept hk)
              replace HV17 := Lib.hid (HV17.out.kept hk)
              clear hv hk
              go_wp2_with fail
              refine (HTD.out _ _ _ HV15.out HV18.out).mono ?_
              rintro e w19 ⟨rfl, hk⟩
              have HK19 := Lib.hid (HK18.out.trans hk)
              replace HV15 := Lib.hid (HV15.out.kept hk)
              replace HV16 := Lib.hid (HV16.out.kept hk)
              replace HV17 := Lib.hid (HV17.out.kept hk)
              clear hk
              go_wp2_with fail
              refine (HF0.out _ HK19.out).mono ?_
              rintro e w20 ⟨⟨v20, rfl, hv⟩, hk⟩
              have HV20 := Lib.hid hv
              have HK20 := Lib.hid (HK19.out.trans hk)
              replace HV15 := Lib.hid (HV15.out.kept hk)
              replace HV16 := Lib.hid (HV16.out.kept hk)
              replace HV17 := Lib.hid (HV17.out.kept hk)
              clear hv hk
              go_wp2_with fail
              refine (HTA.out _ _ _ HV16.out HV20.out).mono ?_
              rintro e w21 ⟨rfl, hk⟩
              have HK21 := Lib.hid (HK20.out.trans hk)
              replace HV15 := Lib.hid (HV15.out.kept hk)
              replace HV16 := Lib.hid (HV16.out.kept hk)
              replace HV17 := Lib.hid (HV17.out.kept hk)
              clear hk
              go_wp2_with fail
              refine (HF1.out _ HK21.out).mono ?_
              rintro e w22 ⟨⟨v22, rfl, hv⟩, hk⟩
              have HV22 := Lib.hid hv
              have HK22 := Lib.hid (HK21.out.trans hk)
              replace HV15 := Lib.hid (HV15.out.kept hk)
              replace HV16 := Lib.hid (HV16.out.kept hk)
              replace HV17 := Lib.hid (HV17.out.kept hk)
              clear hv hk
              go_wp2_with fail
              refine (HTB.out _ _ _ HV17.out HV22.out).mono ?_
              rintro e w23 ⟨rfl, hk⟩
              have HK23 := Lib.hid (HK22.out.trans hk)
              replace HV15 := Lib.hid (HV15.out.kept hk)
              replace HV16 := Lib.hid (HV16.out.kept hk)
              replace HV17 := Lib.hid (HV17.out.kept hk)
              clear hk
              go_wp2
              go_ret
              exact ⟨rfl, HK23.out⟩
            · have hxd : decide (x2 < 0) = false := decide_eq_false hx0
              by_cases hx1 : 16777216 ≤ x2
              · have hx : x2 < 0 ∨ 16777216 ≤ x2 := .inr hx1
                have hxe : decide (16777216 ≤ x2) = true := decide_eq_true hx1
                have HPV : Hid (∀ W, Kept w W → Calls Tryz.prog 22 #[.slice ta0 tl0 tc0, .int .i64 x2] W fun e w' => (∃ v', e = .returned (.tuple #[v', .iface 50 (.int .i64 3)]) ∧ RatAt w' v' ⟨false, [], []⟩) ∧ Kept W w') := Lib.hid fun W h => by
                  refine (pvalue_range _ (polT p) x2 W (HP.out.kept h) (hsp.sh.mono (by omega)).t (chkT_pol hsp.acc) hx).mono fun e w' ⟨he, hk⟩ => ⟨⟨_, he, _, _, rfl, WdsAt.nil w', WdsAt.nil w'⟩, hk⟩
                have HI3 : Hid (∀ W, Calls Tryz.prog 32 #[.iface 50 (.int .i64 3), .int .i64 3] W fun e w' => e = .returned (.bool true) ∧ W = w') := Lib.hid fun W => by
                  have h := is_any 3 3 (by decide) W
                  exact h
                have HSG : Hid (∀ W u, RatAt W u ⟨false, [], []⟩ → Calls Tryz.prog 37 #[u] W fun e w' => e = .returned (.int .i64 0) ∧ Kept W w') := Lib.hid fun W u hu => by
                  have h := rsign_any u _ W hu ⟨by simp, by simp⟩
                  have e0 : sgnR (ratOf ⟨false, [], []⟩) = 0 := by decide +kernel
                  rw [e0] at h
                  exact h
                clear hXR hsp hsm hm30' hQE hRE
                go_wp2_with fail
                refine (HPE.out _ HK4.out).mono ?_
                rintro e w5 ⟨⟨v, rfl, hv⟩, hk⟩
                obtain ⟨n5, l5, m5, a5, c5, b5, d5, w6, rfl, hw, hc, hk2, hr, _⟩ := hv.box
                have HC6 := Lib.hid hc
                have HW6 := Lib.hid hw
                have hk3 := hk.trans hk2
                have HK6 := Lib.hid (HK4.out.trans hk3)
                replace HX4 := Lib.hid (HX4.out.kept hk3)
                clear hv hk hw hc hk2 hr hk3
                go_wp2_with fail
                rw [← HW6.out]
                refine (HRE.out _ HK6.out).mono ?_
                rintro e w7 ⟨⟨v, rfl, hv⟩, hk⟩
                obtain ⟨n7, l7, m7, a7, c7, b7, d7, w8, rfl, hw, hc, hk2, hr, _⟩ := hv.box
                have HC8 := Lib.hid hc
                have HW8 := Lib.hid hw
                have hk3 := hk.trans hk2
                have HK8 := Lib.hid (HK6.out.trans hk3)
                replace HX4 := Lib.hid (HX4.out.kept hk3)
                replace HC6 := Lib.hid (HC6.out.kept hk3)
                clear hv hk hw hc hk2 hr hk3
                go_wp2_with fail
                rw [← HW8.out]
                refine (HNU.out _).mono ?_
                rintro e w9 ⟨rfl, hk⟩
                have HK9 := Lib.hid (HK8.out.trans hk)
                replace HX4 := Lib.hid (HX4.out.kept hk)
                have HC9a := Lib.hid (HC6.out.kept hk)
                have HC9b := Lib.hid (HC8.out.kept hk)
                clear hk
                obtain ⟨ra1, ra2, ra3, ra4, ra5, ra6, ra7, yra0, yra1, yra2, hlra, HRra⟩ := HC9a.out.read
                obtain ⟨rb1, rb2, rb3, rb4, rb5, rb6, rb7, yrb0, yrb1, yrb2, hlrb, HRrb⟩ := HC9b.out.read
                go_wp2_with fail
                refine (HRA.out _ _ _ HRra.out HRrb.out).mono ?_
                rintro e w10 ⟨rfl, hk⟩
                have HK10 := Lib.hid (HK9.out.trans hk)
                replace HX4 := Lib.hid (HX4.out.kept hk)
                clear hk yra0 yra1 yra2 yrb0 yrb1 yrb2 hlra hlrb HRra HRrb HC6 HC8 HC9a HC9b
                obtain ⟨q0, q1⟩ := row2_at HX4.out
                go_wp2_with fail
                refine (HPV.out _ HK10.out).mono ?_
                rintro e w11 ⟨⟨v, rfl, hv⟩, hk⟩
                obtain ⟨n11, l11, m11, a11, c11, b11, d11, w12, rfl, hw, hc, hk2, hr, _⟩ := hv.box
                have HC12 := Lib.hid hc
                have HW12 := Lib.hid hw
                have hk3 := hk.trans hk2
                have HK12 := Lib.hid (HK10.out.trans hk3)
                replace HX4 := Lib.hid (HX4.out.kept hk3)
                clear hv hk hw hc hk2 hr hk3
                clear q0 q1
                obtain ⟨q0, q1⟩ := row2_at HX4.out
                go_upto_region 14 with fail
                rw [← HW12.out]
                go_wp2_with fail
                refine (HI3.out _).mono ?_
                rintro e w13 ⟨rfl, hk13⟩
                have HK13 : Hid (Kept w w13) := Lib.hid (by rw [← hk13]; exact HK12.out)
                have HC13 : Hid (RatCell w13 w11.heap.size ⟨false, [], []⟩) := Lib.hid (by rw [← hk13]; exact HC12.out)
                replace HX4 : Hid (RowAt w13 w.heap.size 56 [.int .i64 x2, .int .i64 i]) := Lib.hid (by rw [← hk13]; exact HX4.out)
                clear hk13
                obtain ⟨ra1, ra2, ra3, ra4, ra5, ra6, ra7, yra0, yra1, yra2, hlra, HRra⟩ := HC13.out.read
                go_wp2_with fail
                refine (HSG.out _ _ HRra.out).mono ?_
                rintro e w14 ⟨rfl, hk⟩
                have HK14 := Lib.hid (HK13.out.trans hk)
                replace HX4 := Lib.hid (HX4.out.kept hk)
                clear hk yra0 yra1 yra2 hlra HRra q0 q1
                obtain ⟨q0, q1⟩ := row2_at HX4.out
                go_wp2_with fail
                refine (HDE.out _ HK14.out).mono ?_
                rintro e w15 ⟨⟨v15, rfl, hv⟩, hk⟩
                obtain ⟨a15, l15, c15, rfl⟩ := hv.slc
                have HV15 := Lib.hid hv
                have HK15 := Lib.hid (HK14.out.trans hk)
                clear hv hk
                clear q0 q1
                go_wp2_with fail
                refine (HR0.out _ HK15.out).mono ?_
                rintro e w16 ⟨⟨v16, rfl, hv⟩, hk⟩
                obtain ⟨a16, l16, c16, rfl⟩ := hv.slc
                have HV16 := Lib.hid hv
                have HK16 := Lib.hid (HK15.out.trans hk)
                replace HV15 := Lib.hid (HV15.out.kept hk)
                clear hv hk
                go_wp2_with fail
                refine (HR1.out _ HK16.out).mono ?_
                rintro e w17 ⟨⟨v17, rfl, hv⟩, hk⟩
                obtain ⟨a17, l17, c17, rfl⟩ := hv.slc
                have HV17 := Lib.hid hv
                have HK17 := Lib.hid (HK16.out.trans hk)
                replace HV15 := Lib.hid (HV15.out.kept hk)
                replace HV16 := Lib.hid (HV16.out.kept hk)
                clear hv hk
                go_wp2_with fail
                refine (HFD.out _ HK17.out).mono ?_
                rintro e w18 ⟨⟨v18, rfl, hv⟩, hk⟩
                have HV18 := Lib.hid hv
                have HK18 := Lib.hid (HK17.out.trans hk)
                replace HV15 := Lib.hid (HV15.out.kept hk)
                replace HV16 := Lib.hid (HV16.out.kept hk)
                replace HV17 := Lib.hid (HV17.out.kept hk)
                clear hv hk
                go_wp2_with fail
                refine (HTD.out _ _ _ HV15.out HV18.out).mono ?_
                rintro e w19 ⟨rfl, hk⟩
                have HK19 := Lib.hid (HK18.out.trans hk)
                replace HV15 := Lib.hid (HV15.out.kept hk)
                replace HV16 := Lib.hid (HV16.out.kept hk)
                replace HV17 := Lib.hid (HV17.out.kept hk)
                clear hk
                go_wp2_with fail
                refine (HF0.out _ HK19.out).mono ?_
                rintro e w20 ⟨⟨v20, rfl, hv⟩, hk⟩
                have HV20 := Lib.hid hv
                have HK20 := Lib.hid (HK19.out.trans hk)
                replace HV15 := Lib.hid (HV15.out.kept hk)
                replace HV16 := Lib.hid (HV16.out.kept hk)
                replace HV17 := Lib.hid (HV17.out.kept hk)
                clear hv hk
                go_wp2_with fail
                refine (HTA.out _ _ _ HV16.out HV20.out).mono ?_
                rintro e w21 ⟨rfl, hk⟩
                have HK21 := Lib.hid (HK20.out.trans hk)
                replace HV15 := Lib.hid (HV15.out.kept hk)
                replace HV16 := Lib.hid (HV16.out.kept hk)
                replace HV17 := Lib.hid (HV17.out.kept hk)
                clear hk
                go_wp2_with fail
                refine (HF1.out _ HK21.out).mono ?_
                rintro e w22 ⟨⟨v22, rfl, hv⟩, hk⟩
                have HV22 := Lib.hid hv
                have HK22 := Lib.hid (HK21.out.trans hk)
                replace HV15 := Lib.hid (HV15.out.kept hk)
                replace HV16 := Lib.hid (HV16.out.kept hk)
                replace HV17 := Lib.hid (HV17.out.kept hk)
                clear hv hk
                go_wp2_with fail
                refine (HTB.out _ _ _ HV17.out HV22.out).mono ?_
                rintro e w23 ⟨rfl, hk⟩
                have HK23 := Lib.hid (HK22.out.trans hk)
                replace HV15 := Lib.hid (HV15.out.kept hk)
                replace HV16 := Lib.hid (HV16.out.kept hk)
                replace HV17 := Lib.hid (HV17.out.kept hk)
                clear hk
                go_wp2
                go_ret
                exact ⟨rfl, HK23.out⟩
              · obtain ⟨s, rfl⟩ : ∃ s : Nat, x2 = s := ⟨x2.toNat, by omega⟩
                have hxe : decide (16777216 ≤ (s : Int)) = false := decide_eq_false hx1
                have hs24 : s < 16777216 := by omega
                obtain ⟨RV, hRV⟩ : ∃ R, R = canR (valP p s) := ⟨_, rfl⟩
                have HPV : Hid (∀ W, Kept w W → Calls Tryz.prog 22 #[.slice ta0 tl0 tc0, .int .i64 s] W fun e w' => (∃ v', e = .returned (.tuple #[v', .nilIface]) ∧ RatAt w' v' RV) ∧ Kept W w') := Lib.hid fun W h => by
                  rw [hRV]
                  exact pvalue_any _ p s W (HP.out.kept h) hsp.acc (hsp.sh.mono (by omega)) hs24
                have HFV : Hid (∀ W, Kept w W → Calls Tryz.prog 38 #[.slice ta0 tl0 tc0, .int .i64 s] W fun e w' => (∃ v', e = .returned v' ∧ RatAt w' v' RV) ∧ Kept W w') := Lib.hid fun W h => by
                  rw [hRV]
                  exact rvalue_any _ p s W (HP.out.kept h) hsm hs24
                have HRB : Hid (∀ W u1 u2, RatAt W u1 RV → RatAt W u2 RV → Calls Tryz.prog 36 #[u1, u2] W fun e w' => e = .returned (.bool true) ∧ Kept W w') := Lib.hid fun W u1 u2 k1 k2 => rat_true u1 u2 RV W k1 k2
                clear hRV
                clear hXR hsp hsm hm30' hQE hRE hs24
                go_wp2_with fail
                refine (HPE.out _ HK4.out).mono ?_
                rintro e w5 ⟨⟨v, rfl, hv⟩, hk⟩
                obtain ⟨n5, l5, m5, a5, c5, b5, d5, w6, rfl, hw, hc, hk2, hr, _⟩ := hv.box
                have HC6 := Lib.hid hc
                have HW6 := Lib.hid hw
                have hk3 := hk.trans hk2
                have HK6 := Lib.hid (HK4.out.trans hk3)
                replace HX4 := Lib.hid (HX4.out.kept hk3)
                clear hv hk hw hc hk2 hr hk3
                go_wp2_with fail
                rw [← HW6.out]
                refine (HRE.out _ HK6.out).mono ?_
                rintro e w7 ⟨⟨v, rfl, hv⟩, hk⟩
                obtain ⟨n7, l7, m7, a7, c7, b7, d7, w8, rfl, hw, hc, hk2, hr, _⟩ := hv.box
                have HC8 := Lib.hid hc
                have HW8 := Lib.hid hw
                have hk3 := hk.trans hk2
                have HK8 := Lib.hid (HK6.out.trans hk3)
                replace HX4 := Lib.hid (HX4.out.kept hk3)
                replace HC6 := Lib.hid (HC6.out.kept hk3)
                clear hv hk hw hc hk2 hr hk3
                go_wp2_with fail
                rw [← HW8.out]
                refine (HNU.out _).mono ?_
                rintro e w9 ⟨rfl, hk⟩
                have HK9 := Lib.hid (HK8.out.trans hk)
                replace HX4 := Lib.hid (HX4.out.kept hk)
                have HC9a := Lib.hid (HC6.out.kept hk)
                have HC9b := Lib.hid (HC8.out.kept hk)
                clear hk
                obtain ⟨ra1, ra2, ra3, ra4, ra5, ra6, ra7, yra0, yra1, yra2, hlra, HRra⟩ := HC9a.out.read
                obtain ⟨rb1, rb2, rb3, rb4, rb5, rb6, rb7, yrb0, yrb1, yrb2, hlrb, HRrb⟩ := HC9b.out.read
                go_wp2_with fail
                refine (HRA.out _ _ _ HRra.out HRrb.out).mono ?_
                rintro e w10 ⟨rfl, hk⟩
                have HK10 := Lib.hid (HK9.out.trans hk)
                replace HX4 := Lib.hid (HX4.out.kept hk)
                clear hk yra0 yra1 yra2 yrb0 yrb1 yrb2 hlra hlrb HRra HRrb HC6 HC8 HC9a HC9b
                obtain ⟨q0, q1⟩ := row2_at HX4.out
                go_wp2_with fail
                refine (HPV.out _ HK10.out).mono ?_
                rintro e w11 ⟨⟨v, rfl, hv⟩, hk⟩
                obtain ⟨n11, l11, m11, a11, c11, b11, d11, w12, rfl, hw, hc, hk2, hr, _⟩ := hv.box
                have HC12 := Lib.hid hc
                have HW12 := Lib.hid hw
                have hk3 := hk.trans hk2
                have HK12 := Lib.hid (HK10.out.trans hk3)
                replace HX4 := Lib.hid (HX4.out.kept hk3)
                clear hv hk hw hc hk2 hr hk3
                clear q0 q1
                obtain ⟨q0, q1⟩ := row2_at HX4.out
                obtain ⟨x1a, x2a, x3a, x4a, x5a, x6a, x7a, yx0, yx1, yx2, hlx, HRx⟩ := HC12.out.read
                have HCL0 : Hid ((fun W : World => W.cell? ⟨w.heap.size, 0, none⟩ = some (.int .i64 s) ∧ W.cell? ⟨w.heap.size, 1, none⟩ = some (.int .i64 (i : Int)) ∧ W.cell? ⟨w11.heap.size, 0, none⟩ = some (.bool x1a) ∧ W.cell? ⟨w11.heap.size, 1, none⟩ = some (.slice x4a x2a x5a) ∧ W.cell? ⟨w11.heap.size, 2, none⟩ = some (.slice x6a x3a x7a)) w12) := Lib.hid ⟨q0, q1, yx0, yx1, yx2⟩
                have HSK : Hid (∀ W W' : World, Kept W W' → (fun W : World => W.cell? ⟨w.heap.size, 0, none⟩ = some (.int .i64 s) ∧ W.cell? ⟨w.heap.size, 1, none⟩ = some (.int .i64 (i : Int)) ∧ W.cell? ⟨w11.heap.size, 0, none⟩ = some (.bool x1a) ∧ W.cell? ⟨w11.heap.size, 1, none⟩ = some (.slice x4a x2a x5a) ∧ W.cell? ⟨w11.heap.size, 2, none⟩ = some (.slice x6a x3a x7a)) W → (fun W : World => W.cell? ⟨w.heap.size, 0, none⟩ = some (.int .i64 s) ∧ W.cell? ⟨w.heap.size, 1, none⟩ = some (.int .i64 (i : Int)) ∧ W.cell? ⟨w11.heap.size, 0, none⟩ = some (.bool x1a) ∧ W.cell? ⟨w11.heap.size, 1, none⟩ = some (.slice x4a x2a x5a) ∧ W.cell? ⟨w11.heap.size, 2, none⟩ = some (.slice x6a x3a x7a)) W') := Lib.hid fun W W' hk ⟨p0, p1, p2, p3, p4⟩ => ⟨hk.cell p0, hk.cell p1, hk.cell p2, hk.cell p3, hk.cell p4⟩
                have HCLd := Lib.hid (HSK.out w12 w12.drew (Kept.refl _).drew HCL0.out)
                go_upto_region 14 with fail
                rw [← HW12.out]
                go_upto_region 17 with fail
                clear q0 q1 yx0 yx1 yx2
                go_region_held3 (fun W => W.cell? ⟨w.heap.size, 0, none⟩ = some (.int .i64 s) ∧ W.cell? ⟨w.heap.size, 1, none⟩ = some (.int .i64 (i : Int)) ∧ W.cell? ⟨w11.heap.size, 0, none⟩ = some (.bool x1a) ∧ W.cell? ⟨w11.heap.size, 1, none⟩ = some (.slice x4a x2a x5a) ∧ W.cell? ⟨w11.heap.size, 2, none⟩ = some (.slice x6a x3a x7a))
                  (with_reducible first | exact HCL14.out | exact HCL13.out | exact HCLd.out | exact HCL0.out)
                  (first
                  | (go_at_call 38; (with_reducible refine (HFV.out _ (HK12.out.trans (Kept.refl w12).drew)).mono ?_); rintro e w13 ⟨⟨v13, rfl, hv⟩, hk⟩; have K13 := Lib.hid ((Kept.refl w12).drew.trans hk); obtain ⟨f1, f2, f3, f4, f5, f6, f7, rfl⟩ := hv.parts; have HV13 := Lib.hid hv; have HCL13 := Lib.hid (HSK.out _ _ K13.out HCL0.out); clear hv hk)
                  | (go_at_call 36; (with_reducible refine (HRB.out _ _ _ (HRx.out.kept K13.out) HV13.out).mono ?_); rintro e w14 ⟨rfl, hk⟩; have K14 := Lib.hid (K13.out.trans hk); have HCL14 := Lib.hid (HSK.out _ _ K14.out HCL0.out); clear hk)
                  | fail)
                have HK14 := Lib.hid (HK12.out.trans K14.out)
                replace HX4 := Lib.hid (HX4.out.kept K14.out)
                obtain ⟨q0, q1⟩ := row2_at HX4.out
                go_wp2_with fail
                refine (HDE.out _ HK14.out).mono ?_
                rintro e w15 ⟨⟨v15, rfl, hv⟩, hk⟩
                obtain ⟨a15, l15, c15, rfl⟩ := hv.slc
                have HV15 := Lib.hid hv
                have HK15 := Lib.hid (HK14.out.trans hk)
                clear hv hk
                clear q0 q1
                go_wp2_with fail
                refine (HR0.out _ HK15.out).mono ?_
                rintro e w16 ⟨⟨v16, rfl, hv⟩, hk⟩
                obtain ⟨a16, l16, c16, rfl⟩ := hv.slc
                have HV16 := Lib.hid hv
                have HK16 := Lib.hid (HK15.out.trans hk)
                replace HV15 := Lib.hid (HV15.out.kept hk)
                clear hv hk
                go_wp2_with fail
                refine (HR1.out _ HK16.out).mono ?_
                rintro e w17 ⟨⟨v17, rfl, hv⟩, hk⟩
                obtain ⟨a17, l17, c17, rfl⟩ := hv.slc
                have HV17 := Lib.hid hv
                have HK17 := Lib.hid (HK16.out.trans hk)
                replace HV15 := Lib.hid (HV15.out.kept hk)
                replace HV16 := Lib.hid (HV16.out.kept hk)
                clear hv hk
                go_wp2_with fail
                refine (HFD.out _ HK17.out).mono ?_
                rintro e w18 ⟨⟨v18, rfl, hv⟩, hk⟩
                have HV18 := Lib.hid hv
                have HK18 := Lib.hid (HK17.out.trans hk)
                replace HV15 := Lib.hid (HV15.out.kept hk)
                replace HV16 := Lib.hid (HV16.out.kept hk)
                replace HV17 := Lib.hid (HV17.out.kept hk)
                clear hv hk
                go_wp2_with fail
                refine (HTD.out _ _ _ HV15.out HV18.out).mono ?_
                rintro e w19 ⟨rfl, hk⟩
                have HK19 := Lib.hid (HK18.out.trans hk)
                replace HV15 := Lib.hid (HV15.out.kept hk)
                replace HV16 := Lib.hid (HV16.out.kept hk)
                replace HV17 := Lib.hid (HV17.out.kept hk)
                clear hk
                go_wp2_with fail
                refine (HF0.out _ HK19.out).mono ?_
                rintro e w20 ⟨⟨v20, rfl, hv⟩, hk⟩
                have HV20 := Lib.hid hv
                have HK20 := Lib.hid (HK19.out.trans hk)
                replace HV15 := Lib.hid (HV15.out.kept hk)
                replace HV16 := Lib.hid (HV16.out.kept hk)
                replace HV17 := Lib.hid (HV17.out.kept hk)
                clear hv hk
                go_wp2_with fail
                refine (HTA.out _ _ _ HV16.out HV20.out).mono ?_
                rintro e w21 ⟨rfl, hk⟩
                have HK21 := Lib.hid (HK20.out.trans hk)
                replace HV15 := Lib.hid (HV15.out.kept hk)
                replace HV16 := Lib.hid (HV16.out.kept hk)
                replace HV17 := Lib.hid (HV17.out.kept hk)
                clear hk
                go_wp2_with fail
                refine (HF1.out _ HK21.out).mono ?_
                rintro e w22 ⟨⟨v22, rfl, hv⟩, hk⟩
                have HV22 := Lib.hid hv
                have HK22 := Lib.hid (HK21.out.trans hk)
                replace HV15 := Lib.hid (HV15.out.kept hk)
                replace HV16 := Lib.hid (HV16.out.kept hk)
                replace HV17 := Lib.hid (HV17.out.kept hk)
                clear hv hk
                go_wp2_with fail
                refine (HTB.out _ _ _ HV17.out HV22.out).mono ?_
                rintro e w23 ⟨rfl, hk⟩
                have HK23 := Lib.hid (HK22.out.trans hk)
                replace HV15 := Lib.hid (HV15.out.kept hk)
                replace HV16 := Lib.hid (HV16.out.kept hk)
                replace HV17 := Lib.hid (HV17.out.kept hk)
                clear hk
                go_wp2
                go_ret
                exact ⟨rfl, HK23.out⟩
    · have hqi : ((Q0 : Int) != 0) = true := by simp; omega
      go_wp2_with fail
      refine (HCR.out _ HK2.out).mono ?_
      rintro e w3 ⟨rfl, hk3⟩
      have HK3 := Lib.hid (HK2.out.trans hk3)
      clear hk3
      go_wp2_with fail
      refine (HA.out _).mono ?_
      rintro e wz ⟨rfl, hkz⟩
      go_wp2
      go_ret
      exact ⟨rfl, HK3.out.trans hkz⟩
end Go.Proofs.YtpaedhlacbpmpaaGreatDoor
