import Derived.WalkKit
import Derived.WalkSpells
import Derived.WalkLawsBesides
import Derived.Deep.QuietTactic
import Derived.BigQuiet
import Derived.Lib.Hide
import Derived.Shelf.Abstract
import Derived.Deep.RegionWith
import Derived.Laws.AppendOwnNone
import Derived.Lib.AppendZerosOnto
import Derived.Lib.SliceRun
import Derived.Lib.SlicesCompact
import Derived.Shelf.SlSortCmp.NoneTotal
import Derived.Maps.OwnOps
import Derived.Maps.OwnSet
import Derived.Maps.Views
import Derived.Deep.MidRow
import Derived.Deep.RegionHeld3
import Derived.Deep.AppendLies
import Derived.Deep.RegionLaw
import Derived.IntWalk
import Derived.StillTailTactics
import Derived.ProofKit
import Derived.OpenShut
import Derived.SizedLaws
import Derived.Lib.SmallJoins
import Derived.Deep.Slices
import Derived.Deep.Fields
import Derived.Deep.Strs
import Derived.Carry
import Derived.Deep.DeepCutAuto
import Derived.BigRegion
import Derived.ChangeAlike
import Derived.Deep.LoopGhost
import Derived.Lib.ItoaNum
import Derived.RegionTactic
import Derived.Shelf.SlSortCmp.PdqK
import Derived.Sort.LotA
import Derived.Sort.LotD2
import Derived.Lib.BitFns
import Derived.Deep.CutBlock
import Derived.Laws.IdiomStrings
import Derived.Test.YtbkchheikkbebaaGreatDoorDI7
import Derived.Test.YtbkchheikkbebaaGreatDoorDI9
import Derived.Test.YtbkchheikkbebaaGreatDoorDI10
import Derived.Test.YtbkchheikkbebaaGreatDoorDI8
import Derived.Test.YtbkchheikkbebaaGreatDoorDI6
import Derived.Test.YtbkchheikkbebaaGreatDoorDI5
import Derived.Test.YtbkchheikkbebaaGreatDoorDI1
import Derived.Test.YtbkchheikkbebaaGreatDoorChecked
import Derived.Test.YtbkchheikkbebaaGreatDoorRows
import Derived.Lay
import Derived.Stop.Joined
import Derived.Test.YtbkchheikkbebaaGreatDoorCards
import Derived.Test.YtbkchheikkbebaaGreatDoorTie
import Derived.LaidMore
import Derived.SevenTiedAt
/-
  Walk: the law InclusionNarrows returns true, whatever the family and the fractions. Printed by pre.py.
-/
namespace Go.Proofs.YtbkchheikkbebaaGreatDoor
open Go.RowKit

set_option maxRecDepth 100000 in
set_option maxHeartbeats 16000000 in
theorem innarrow_true (xv v : Value) (xs : List Int) (ps : List Rw) (w : World) (hx : IntsAt w xv xs) (hv : RatsRaw w v ps) : Calls Tryz.prog 11 #[xv, v] w fun e w' => e = .returned (.bool true) ∧ Kept w w' := by
  have HA : Hid (∀ W, Calls Tryz.prog 36 #[] W fun e w' => e = .returned (.bool true) ∧ Kept W w') := Lib.hid fun W => awake39_ok W
  have HL := Lib.hid (fun W (h : Kept w W) => large_any v ps W (hv.kept h))
  obtain ⟨xa, xc, hxs, _⟩ := id hx
  obtain ⟨n, hn⟩ : ∃ n, n = xs.length := ⟨_, rfl⟩
  rw [← hn] at hxs
  obtain ⟨pa, pc, hps, _⟩ := id hv
  obtain ⟨pn, hpn⟩ : ∃ pn, pn = ps.length := ⟨_, rfl⟩
  rw [← hpn] at hps
  subst hxs hps
  have HX := Lib.hid hx
  have HRV := Lib.hid hv
  have HNN := Lib.hid hn
  have HPN := Lib.hid hpn
  clear hx hv hn hpn
  obtain ⟨mb, hmb⟩ : ∃ mb, mb = many9 n := ⟨_, rfl⟩
  have HMN : Hid (∀ W, Calls Tryz.prog 37 #[.slice xa n xc] W fun e w' => e = .returned (.bool mb) ∧ w' = W) := Lib.hid fun W => by rw [hmb]; exact many39_any xa n xc W
  have HSM : Hid (mb = false → n ≤ 6 ∨ 12 < n) := Lib.hid fun h => many9_small (hmb ▸ h)
  clear hmb
  go_enter Tryz.func11, Tryz.ntmps11
  go_wp2_with fail
  refine (HA.out _).mono ?_
  rintro e w1 ⟨rfl, hk1⟩
  have HK1 := Lib.hid hk1
  clear hk1
  go_wp2_with fail
  refine (HMN.out _).mono ?_
  rintro e w2 ⟨rfl, h2⟩
  rw [h2]
  clear h2
  cases mb with
  | true =>
    go_wp2_with fail
    refine (HA.out _).mono ?_
    rintro e w3 ⟨rfl, hk3⟩
    go_wp2
    go_ret
    exact ⟨rfl, HK1.out.trans hk3⟩
  | false =>
    go_wp2_with fail
    refine (HL.out _ HK1.out).mono ?_
    rintro e w2 ⟨⟨u2, rfl, bb, rfl, hbb⟩, hk2⟩
    have HK2 := Lib.hid (HK1.out.trans hk2)
    have HBB := Lib.hid hbb
    clear hk2 hbb
    cases bb with
    | true =>
      go_wp2_with fail
      refine (HA.out _).mono ?_
      rintro e w3 ⟨rfl, hk3⟩
      go_wp2
      go_ret
      exact ⟨rfl, HK2.out.trans hk3⟩
    | false =>
      obtain ⟨h30, hs3⟩ := HBB.out rfl
      have HPV := Lib.hid (HRV.out.small fun r hr => ⟨Nat.le_trans (hs3 r hr).1 (by omega), Nat.le_trans (hs3 r hr).2 (by omega)⟩)
      have HN6 : Hid (xs.length ≤ 6 ∨ 12 < xs.length) := Lib.hid (by rw [← HNN.out]; first | exact HSM.out rfl | exact HSM.out trivial | simpa using HSM.out)
      have HS3 := Lib.hid hs3
      have H30 := Lib.hid h30
      clear h30 hs3
      obtain ⟨rb, hrb⟩ : ∃ rb, rb = decide (incE xs ps 0 = 0) := ⟨_, rfl⟩
      have HRY : Hid (∀ W, Kept w W → Calls Tryz.prog 42 #[.slice xa n xc, .slice pa pn pc] W fun e w' => e = .returned (.bool rb) ∧ Kept W w') := Lib.hid fun W h => by
        rw [hrb]
        exact ready39_any _ _ xs ps W (HX.out.kept h) (HPV.out.kept h) HS3.out H30.out HN6.out
      have HRQ : Hid (rb = true → Rdy xs ps) := Lib.hid fun h => (incE_zero (of_decide_eq_true (hrb ▸ h))).1
      clear hrb
      go_wp2_with fail
      refine (HRY.out _ HK2.out).mono ?_
      rintro e w3 ⟨rfl, hk3⟩
      have HK3 := Lib.hid (HK2.out.trans hk3)
      clear hk3
      cases rb with
      | false =>
        go_wp2_with fail
        refine (HA.out _).mono ?_
        rintro e w4 ⟨rfl, hk4⟩
        go_wp2
        go_ret
        exact ⟨rfl, HK3.out.trans hk4⟩
      | true =>
        have HRD := Lib.hid (HRQ.out rfl)
        clear HRQ HRY HMN HSM HBB
        have hl6 : (natsI xs).length ≤ 6 := by
          have h1 := HN6.out
          have h2 := HRD.out.len
          rw [HRD.out.nlen]
          omega
        have HL6 := Lib.hid hl6
        have HSH : Hid (∀ j, j ≤ 12 → (canR (altR ps (natsI xs) j)).Short 200000) := Lib.hid fun j hj => by
          have h := altR_short H30.out HS3.out HPV.out.ok HL6.out j
          exact ⟨Nat.le_trans h.1 (by omega), Nat.le_trans h.2 (by omega)⟩
        obtain ⟨X, hX⟩ : ∃ X, X = canR (altR ps (natsI xs) 12) := ⟨_, rfl⟩
        have HEX : Hid (∀ W, Kept w W → Calls Tryz.prog 38 #[.slice xa n xc, .slice pa pn pc] W fun e w' => (∃ v', e = .returned (.tuple #[v', .nilIface]) ∧ RatAt w' v' X) ∧ Kept W w') := Lib.hid fun W h => by
          have h1 := iexact_any _ _ xs ps W (HX.out.kept h) (HPV.out.kept h) HS3.out H30.out HN6.out
          have h2 := HRD.out.inc (k := 12) (by omega) (by omega)
          rw [partV, if_pos h2, h2, errV_zero] at h1
          rw [hX]
          exact h1
        have HXX := Lib.hid hX
        clear hl6 hX
        have HBS : Hid (∀ j, j ≤ 12 → (canR (loR ps (natsI xs) j)).Short 200000 ∧ (canR (hiR ps (natsI xs) j)).Short 200000) := Lib.hid fun j hj => by
          have h := bnd_short H30.out HS3.out HPV.out.ok HL6.out j
          exact ⟨⟨Nat.le_trans h.1.1 (by omega), Nat.le_trans h.1.2 (by omega)⟩, ⟨Nat.le_trans h.2.1 (by omega), Nat.le_trans h.2.2 (by omega)⟩⟩
        have HBB : Hid (∀ j : Nat, j ≤ 12 → ∀ W, Kept w W → Calls Tryz.prog 40 #[.slice xa n xc, .slice pa pn pc, .int .i64 j] W fun e w' => (∃ v', e = .returned (.tuple #[v', .nilIface]) ∧ SpanV w' v' (canR (loR ps (natsI xs) j)) (canR (hiR ps (natsI xs) j))) ∧ Kept W w') := Lib.hid fun j hj W h => by
          have h1 := ibounds_any _ _ xs ps j W (HX.out.kept h) (HPV.out.kept h) HS3.out H30.out HN6.out
          have h2 := HRD.out.inc (k := j) (by omega) (by omega)
          rw [bndV, if_pos h2, h2, errV_zero, Int.toNat_natCast] at h1
          exact h1
        have HB0 : Hid (∀ W, Kept w W → Calls Tryz.prog 40 #[.slice xa n xc, .slice pa pn pc, .int .i64 0] W fun e w' => (∃ v', e = .returned (.tuple #[v', .nilIface]) ∧ SpanV w' v' (canR 0) (canR 1)) ∧ Kept W w') := Lib.hid fun W h => by
          have h1 := HBB.out 0 (by omega) W h
          rw [loR_zero, hiR_zero] at h1
          exact h1
        have HTX : Hid (∀ W v, SpanV W v (canR 0) (canR 1) → Calls Tryz.prog 50 #[v] W fun e w' => e = .returned (.string ⟨#[48, 46, 46, 49]⟩) ∧ Kept W w') := Lib.hid fun W v h => stext_any v 0 1 [48] [49] W h (by decide +kernel) ⟨by decide +kernel, by decide +kernel⟩ ⟨by decide +kernel, by decide +kernel⟩ (fun W u hu => rtext_zero u W hu) (fun W u hu => rtext_one u W hu) (by decide) (by decide)
        have HSX : Hid ((canR (altR ps (natsI xs) 12)).Short 200000) := Lib.hid (HSH.out 12 (by omega))
        have HIN : Hid (∀ j, loR ps (natsI xs) j ≤ altR ps (natsI xs) 12 ∧ altR ps (natsI xs) 12 ≤ hiR ps (natsI xs) j) := Lib.hid fun j => bnd_has HRD.out HPV.out.ok j
        go_wp2_with fail
        refine (HEX.out _ HK3.out).mono ?_
        rintro e w4 ⟨⟨v, rfl, hv⟩, hk⟩
        obtain ⟨n4, l4, m4, a4, c4, b4, d4, w5, rfl, hw, hc, hk2, hr, _⟩ := hv.box
        have HC5 := Lib.hid hc
        have HW5 := Lib.hid hw
        have HV5 := Lib.hid hr
        have SK4 := Lib.hid hk
        have KB5 := Lib.hid hk2
        have SK5 := Lib.hid (hk.trans hk2)
        have HK5 := Lib.hid (HK3.out.trans SK5.out)
        clear hv hk hw hc hk2 hr
        go_wp2_with fail
        rw [← HW5.out]
        refine (HB0.out _ HK5.out).mono ?_
        rintro e w6 ⟨⟨v, rfl, hv⟩, hk⟩
        obtain ⟨n6, l6, m6, n7, l7, m7, a6, c6, b6, d6, a7, c7, b7, d7, w7, rfl, hw, hc, hk2, hr, _⟩ := hv.box
        have HC7 := Lib.hid hc
        have HW7 := Lib.hid hw
        have HV7 := Lib.hid hr
        have SK6 := Lib.hid hk
        have KB7 := Lib.hid hk2
        have SK7 := Lib.hid (hk.trans hk2)
        have HK7 := Lib.hid (HK5.out.trans SK7.out)
        clear hv hk hw hc hk2 hr
        have HKG : Hid (w5.heap.size ≤ w6.heap.size) := Lib.hid SK6.out.size
        have HL0 : Hid (SpnAt w7 w6.heap.size (canR (loR ps (natsI xs) (0 - 1))) (canR (hiR ps (natsI xs) (0 - 1)))) := Lib.hid (by
          show SpnAt w7 w6.heap.size (canR (loR ps (natsI xs) 0)) (canR (hiR ps (natsI xs) 0))
          rw [loR_zero, hiR_zero]
          exact HC7.out)
        go_wp2_with fail
        rw [← HW7.out]
        refine (HTX.out _ _ HV7.out).mono ?_
        rintro e w8 ⟨rfl, hk8⟩
        have HK58 := Lib.hid (SK7.out.trans hk8)
        have HL8 := Lib.hid (HL0.out.kept hk8)
        clear hk8
        go_wp2_with fail
        go_loopg [52] 13 (fun kx s52 wr => ∃ j : Nat, j ≤ 13 ∧ s52 = .int .i64 j ∧ 13 - j ≤ kx ∧ Hid (Kept w5 wr) ∧ Hid (SpnAt wr w6.heap.size (canR (loR ps (natsI xs) (j - 1))) (canR (hiR ps (natsI xs) (j - 1)))))
        case atStart => exact ⟨0, by omega, rfl, by omega, HK58, HL8⟩
        case round =>
          obtain ⟨j, hj, rfl, hjx, HKq, HLr⟩ := hrel
          by_cases hlt : j < 13
          · have hji : (j : Int) < 13 := by omega
            have hj12 : j ≤ 12 := by omega
            have HBJ := Lib.hid (HBB.out j hj12)
            have hsz := HBS.out j hj12
            have hin := HIN.out j
            have hle := Rat.le_trans hin.1 hin.2
            have hm : loR ps (natsI xs) (j - 1) ≤ loR ps (natsI xs) j ∧ hiR ps (natsI xs) j ≤ hiR ps (natsI xs) (j - 1) := by
              cases j with
              | zero => exact ⟨Rat.le_refl, Rat.le_refl⟩
              | succ i => exact ⟨lo_mono ps (natsI xs) i, hi_mono ps (natsI xs) i⟩
            have hsz1 := HBS.out (j - 1) (by omega)
            have HVJ := Lib.hid (fun W u (h : SpanV W u (canR (loR ps (natsI xs) j)) (canR (hiR ps (natsI xs) j))) => svalid_any u _ _ W h hsz.1 hsz.2 hle)
            have HCJ : Hid (∀ W u1 u2, SpanV W u1 (canR (loR ps (natsI xs) j)) (canR (hiR ps (natsI xs) j)) → RatAt W u2 X → Calls Tryz.prog 52 #[u1, u2] W fun e w' => e = .returned (.bool true) ∧ Kept W w') := Lib.hid fun W u1 u2 h1 h2 => by
              rw [HXX.out] at h2
              exact scontains_any u1 u2 _ _ _ W h1 h2 hsz.1 hsz.2 HSX.out hin.1 hin.2
            have HIJ := Lib.hid (fun W u1 u2 (h1 : SpanV W u1 (canR (loR ps (natsI xs) j)) (canR (hiR ps (natsI xs) j))) (h2 : SpanV W u2 (canR (loR ps (natsI xs) (j - 1))) (canR (hiR ps (natsI xs) (j - 1)))) => sinside_any u1 u2 _ _ _ _ W h1 h2 hsz.1 hsz.2 hsz1.1 hsz1.2 hm.1 hle hm.2)
            have HWJ := Lib.hid (fun W u (h : SpanV W u (canR (loR ps (natsI xs) j)) (canR (hiR ps (natsI xs) j))) => swidth_any u _ _ W h hsz.1 hsz.2 hle)
            obtain ⟨q, hq⟩ : ∃ q, q = hiR ps (natsI xs) j - loR ps (natsI xs) j := ⟨_, rfl⟩
            have hqs : (canR q).Short 400001 := by
              have h := short_sub (canR_ok (hiR ps (natsI xs) j)) (canR_ok (loR ps (natsI xs) j)) hsz.2 hsz.1 (by omega) (by omega)
              rw [ratOf_can, ratOf_can, ← hq] at h
              exact h
            rw [← hq] at HWJ
            have HSG : Hid (∀ W u, RatAt W u (canR q) → Calls Tryz.prog 45 #[u] W fun e w' => e = .returned (.int .i64 (sgnR q)) ∧ Kept W w') := Lib.hid fun W u h => by
              have h1 := rsign_any u _ W h ⟨Nat.le_trans hqs.1 (by omega), Nat.le_trans hqs.2 (by omega)⟩
              rw [ratOf_can] at h1
              exact h1
            have HED : Hid (n < j → q = 0 ∨ altR ps (natsI xs) 12 = 0) := Lib.hid fun h => by
              rw [hq]
              exact bnd_end HRD.out HPV.out.ok (by rw [← HNN.out]; exact h)
            clear hsz hin hle hm hsz1 hq hqs
            obtain ⟨wo, rfl⟩ : ∃ wo : World, wo = wr := ⟨_, rfl⟩
            have HKw := Lib.hid (HK5.out.trans HKq.out)
            go_wp2_with fail
            refine (HBJ.out _ HKw.out).mono ?_
            rintro e w9 ⟨⟨v, rfl, hv⟩, hk⟩
            obtain ⟨n9, l9, m9, n10, l10, m10, a9, c9, b9, d9, a10, c10, b10, d10, w10, rfl, hw, hc, hk2, hr, _⟩ := hv.box
            have HC10 := Lib.hid hc
            have HW10 := Lib.hid hw
            have HV10 := Lib.hid hr
            have SK9 := Lib.hid hk
            have KB10 := Lib.hid hk2
            have SK10 := Lib.hid (hk.trans hk2)
            have HK10 := Lib.hid (HKw.out.trans SK10.out)
            clear hv hk hw hc hk2 hr
            go_wp2_with fail
            rw [← HW10.out]
            refine (HVJ.out _ _ HV10.out).mono ?_
            rintro e w11 ⟨rfl, hk11⟩
            have HC11 := Lib.hid (HC10.out.kept hk11)
            have KO11 := Lib.hid (SK10.out.trans hk11)
            clear hk11
            obtain ⟨b1, b2, b3, b4, b5, b6, eb1, eb2, eb3, eb4, eb5, eb6, eb7, eb8, xb0, xb1, xb2, xb3, xb4, xb5, hlb, HLb, HHb, HSb⟩ := (HC11.out).read
            obtain ⟨x1, x2, x3, ex1, ex2, ex3, ex4, yx0, yx1, yx2, hlx, HRx⟩ := (HC5.out.kept (HKq.out.trans KO11.out)).read
            go_wp2_with fail
            refine (HCJ.out _ _ _ HSb.out HRx.out).mono ?_
            rintro e w12 ⟨rfl, hk12⟩
            have HC12 := Lib.hid (HC11.out.kept hk12)
            have KO12 := Lib.hid (KO11.out.trans hk12)
            clear hk12
            clear xb0 xb1 xb2 xb3 xb4 xb5 hlb HLb HHb HSb
            clear yx0 yx1 yx2 hlx HRx
            obtain ⟨b1, b2, b3, b4, b5, b6, eb1, eb2, eb3, eb4, eb5, eb6, eb7, eb8, xb0, xb1, xb2, xb3, xb4, xb5, hlb, HLb, HHb, HSb⟩ := (HC12.out).read
            obtain ⟨l1, l2, l3, l4, l5, l6, el1, el2, el3, el4, el5, el6, el7, el8, xl0, xl1, xl2, xl3, xl4, xl5, hll, HLl, HHl, HSl⟩ := (HLr.out.kept KO12.out).read
            go_wp2_with fail
            refine (HIJ.out _ _ _ HSb.out HSl.out).mono ?_
            rintro e w13 ⟨rfl, hk13⟩
            have HC13 := Lib.hid (HC12.out.kept hk13)
            have KO13 := Lib.hid (KO12.out.trans hk13)
            clear hk13
            clear xb0 xb1 xb2 xb3 xb4 xb5 hlb HLb HHb HSb
            clear xl0 xl1 xl2 xl3 xl4 xl5 hll HLl HHl HSl
            obtain ⟨b1, b2, b3, b4, b5, b6, eb1, eb2, eb3, eb4, eb5, eb6, eb7, eb8, xb0, xb1, xb2, xb3, xb4, xb5, hlb, HLb, HHb, HSb⟩ := (HC13.out).read
            obtain ⟨x1, x2, x3, ex1, ex2, ex3, ex4, yx0, yx1, yx2, hlx, HRx⟩ := (HC5.out.kept (HKq.out.trans KO13.out)).read
            go_upto_region 13 with fail
            go_cut [96] (fun p wx => p = .bool false ∧ Hid (Kept w13 wx))
            case first =>
              by_cases hnj : n < j
              · have hni : (n : Int) < (j : Int) := by omega
                by_cases hq0 : q = 0
                · subst hq0
                  rw [show sgnR 0 = 0 from rfl] at HSG
                  clear HED
                  go_region_with (first
                    | (go_at_call 54; (with_reducible refine (HWJ.out _ _ (HSb.out.kept (by repeat (with_reducible first | exact Kept.refl _ | apply Kept.drew)))).mono ?_); rintro e w14 ⟨⟨v14, rfl, hv14⟩, hk14⟩; have HKB : Hid (Kept w13 w14) := Lib.hid ((Kept.refl w13).drew.trans hk14); obtain ⟨s1, s2, s3, s4, s5, s6, s7, rfl⟩ := hv14.parts; have HV14 := Lib.hid hv14; clear hk14 hv14)
                    | (go_at_call 45; (with_reducible refine (HSG.out _ _ HV14.out).mono ?_); rintro e w15 ⟨rfl, hk15⟩; have HKC : Hid (Kept w13 w15) := Lib.hid (HKB.out.trans hk15); have g0 := HKC.out.cell yx0; have g1 := HKC.out.cell yx1; have g2 := HKC.out.cell yx2; clear hk15))
                  all_goals go_wp2_with fail
                  all_goals go_meet
                  all_goals exact ⟨rfl, Lib.hid (by repeat (with_reducible first | exact HKE.out | exact HKC.out | exact Kept.refl _ | apply Kept.drew))⟩
                · have hx0 : altR ps (natsI xs) 12 = 0 := (HED.out hnj).resolve_left hq0
                  have hs2 : sgnR q = 1 ∨ sgnR q = -1 := by
                    unfold sgnR
                    rw [if_neg hq0]
                    split
                    · exact .inr rfl
                    · exact .inl rfl
                  have HXZ : Hid (X = canR 0) := Lib.hid (by rw [HXX.out, hx0])
                  have HOF : Hid (∀ W, Calls Tryz.prog 55 #[.int .i64 0] W fun e w' => (∃ v', e = .returned v' ∧ RatAt w' v' (canR 0)) ∧ Kept W w') := Lib.hid fun W => rof_any 0 W (by omega) (by omega)
                  have HCM : Hid (∀ W u1 u2, RatAt W u1 X → RatAt W u2 (canR 0) → Calls Tryz.prog 44 #[u1, u2] W fun e w' => e = .returned (.int .i64 0) ∧ Kept W w') := Lib.hid fun W u1 u2 h1 h2 => by
                    rw [HXZ.out] at h1
                    have h := rcmp_any u1 u2 _ _ W h1 h2 ⟨by decide +kernel, by decide +kernel⟩ ⟨by decide +kernel, by decide +kernel⟩
                    rw [Rat.sub_self] at h
                    exact h
                  clear hx0 HED hq0
                  rcases hs2 with hs2 | hs2 <;> rw [hs2] at HSG
                  all_goals clear hs2
                  all_goals
                    go_region_with (first
                      | (go_at_call 54; (with_reducible refine (HWJ.out _ _ (HSb.out.kept (by repeat (with_reducible first | exact Kept.refl _ | apply Kept.drew)))).mono ?_); rintro e w14 ⟨⟨v14, rfl, hv14⟩, hk14⟩; have HKB : Hid (Kept w13 w14) := Lib.hid ((Kept.refl w13).drew.trans hk14); obtain ⟨s1, s2, s3, s4, s5, s6, s7, rfl⟩ := hv14.parts; have HV14 := Lib.hid hv14; clear hk14 hv14)
                      | (go_at_call 45; (with_reducible refine (HSG.out _ _ HV14.out).mono ?_); rintro e w15 ⟨rfl, hk15⟩; have HKC : Hid (Kept w13 w15) := Lib.hid (HKB.out.trans hk15); have g0 := HKC.out.cell yx0; have g1 := HKC.out.cell yx1; have g2 := HKC.out.cell yx2; clear hk15)
                      | (go_at_call 55; (with_reducible refine (HOF.out _).mono ?_); rintro e w16 ⟨⟨v16, rfl, hv16⟩, hk16⟩; have HKD : Hid (Kept w13 w16) := Lib.hid (HKC.out.trans hk16); have k0 := HKD.out.cell yx0; have k1 := HKD.out.cell yx1; have k2 := HKD.out.cell yx2; obtain ⟨t1, t2, t3, t4, t5, t6, t7, rfl⟩ := hv16.parts; have HV16 := Lib.hid hv16; clear hk16 hv16)
                      | (go_at_call 44; (with_reducible refine (HCM.out _ _ _ (HRx.out.kept HKD.out) HV16.out).mono ?_); rintro e w17 ⟨rfl, hk17⟩; have HKE : Hid (Kept w13 w17) := Lib.hid (HKD.out.trans hk17); clear hk17))
                  all_goals go_wp2_with fail
                  all_goals go_meet
                  all_goals exact ⟨rfl, Lib.hid (by repeat (with_reducible first | exact HKE.out | exact HKC.out | exact Kept.refl _ | apply Kept.drew))⟩
              · have hni : ¬ (n : Int) < (j : Int) := by omega
                have hnd : decide ((n : Int) < (j : Int)) = false := decide_eq_false hni
                go_region_with (fail)
                all_goals go_wp2_with fail
                all_goals go_meet
                all_goals exact ⟨rfl, Lib.hid (by repeat (with_reducible first | exact Kept.refl _ | apply Kept.drew))⟩
            case rest =>
              obtain ⟨rfl, HKx⟩ := hcut
              have HKz := Lib.hid (HKx.out)
              clear xb0 xb1 xb2 xb3 xb4 xb5 hlb HLb HHb HSb
              clear yx0 yx1 yx2 hlx HRx
              obtain ⟨wz, rfl⟩ : ∃ wz : World, wz = wc := ⟨_, rfl⟩
              obtain ⟨b1, b2, b3, b4, b5, b6, eb1, eb2, eb3, eb4, eb5, eb6, eb7, eb8, xb0, xb1, xb2, xb3, xb4, xb5, hlb, HLb, HHb, HSb⟩ := (HC13.out.kept HKx.out).read
              obtain ⟨_, _, _, _, _, _, _, _, _, _, _, _, _, _, w', e9, hw', ⟨⟨z0, p0⟩, ⟨z1, p1⟩, ⟨z2, p2⟩, ⟨z3, p3⟩, ⟨z4, p4⟩, ⟨z5, p5⟩⟩, ⟨f0, f1, f2, f3, f4, f5⟩, hl9, _, _, HSP, _, HKP⟩ := (HLr.out.kept (KO13.out.trans HKx.out)).put HSb.out
              simp only [Value.agg.injEq, Array.mk.injEq, List.cons.injEq, Value.bool.injEq, Value.slice.injEq, and_true] at e9
              obtain ⟨rfl, ⟨rfl, rfl, rfl⟩, ⟨rfl, rfl, rfl⟩, rfl, ⟨rfl, rfl, rfl⟩, rfl, rfl, rfl⟩ := e9
              have HKN := Lib.hid (HKP.out _ (HKq.out.trans (KO13.out.trans HKx.out)) HKG.out)
              rw [hw'] at HSP HKN
              clear hw' HKP
              go_wp2_with fail
              go_roundg (13 - (j + 1))
              case measure => omega
              case rel => exact ⟨j + 1, by omega, by go_num, Nat.le_refl _, HKN, HSP⟩
          · have hje : ¬ (j : Int) < 13 := by omega
            go_wp2
            go_ret
            exact ⟨rfl, HK5.out.trans HKq.out⟩
end Go.Proofs.YtbkchheikkbebaaGreatDoor

/-
  Walk: the law InclusionTotals returns true, whatever the family and the fractions. Printed by pre.py.
-/
namespace Go.Proofs.YtbkchheikkbebaaGreatDoor
open Go.RowKit

theorem chkI_single {s : Nat} (hs : s < 16777216) : chkI [(s : Int)] = 0 := by
  have he : errI [(s : Int)] = 0 := by
    unfold errI
    rw [if_neg (by simp), if_pos (okI_iff.2 fun x hx => by
      rw [List.mem_singleton] at hx
      subst hx
      omega)]
  have hn : natsI [(s : Int)] = [s] := rfl
  unfold chkI
  rw [if_neg (by omega), hn, if_neg (by simp [sortK, insK]), if_neg (by have h := can_one s; unfold Can at h; rw [h]; simp)]
theorem rdy_single {xs : List Int} {ps : List Rw} (h : Rdy xs ps) {s : Nat} (hs : s ∈ natsI xs) : Rdy [(s : Int)] ps := by
  have h1 := h.gt s hs
  refine ⟨chkI_single h1.1, by simp, fun t ht => ?_, h.bad⟩
  have hn : natsI [(s : Int)] = [s] := rfl
  rw [hn, List.mem_singleton] at ht
  subst ht
  exact h1
theorem prb_single {xs : List Int} {ps : List Rw} (h : Rdy xs ps) {s : Nat} (hs : s ∈ natsI xs) : prbD [((s : Int), 0)] ps = (0, prodQ s ps ps.length) := by
  have h1 := h.gt s hs
  have hc : chkCb ((s : Int), 0) = 0 := by
    unfold chkCb
    rw [if_pos (by refine ⟨⟨?_, ?_⟩, ?_, ?_⟩ <;> simp <;> omega), if_neg (by simp)]
  have hm : [((s : Int), (0 : Int))].map natC = [(s, 0)] := rfl
  unfold prbD
  rw [if_neg (by rw [chkD_one hc]; simp), hm]
  unfold prbT
  rw [if_neg (by simp only [List.any_cons, List.any_nil, Bool.or_false, decide_eq_true_eq, Nat.or_zero]; omega), if_neg (by rw [h.bad]; simp)]
  have e : sumWs ps [(s, 0)] [(s, 0)].length = 0 + wQs ps (s, 0) ps.length := rfl
  have e2 : wQs ps (s, 0) ps.length = prodQ s ps ps.length := pQ_prod s ps ps.length
  rw [e, e2, Rat.zero_add]
theorem ints_one (w : World) (s : Int) : IntsAt (w.alloc (.cells #[.int .i64 s] 3)) (.slice (some ⟨w.heap.size, 0, none⟩) 1 1) [s] :=
  (RowAt.made w #[.int .i64 s] 3).ints (xs := [s]) (c := 1) (by simp) (by simp)
set_option maxRecDepth 100000 in
set_option maxHeartbeats 16000000 in
theorem intotal_true (xv v : Value) (xs : List Int) (ps : List Rw) (w : World) (hx : IntsAt w xv xs) (hv : RatsRaw w v ps) : Calls Tryz.prog 12 #[xv, v] w fun e w' => e = .returned (.bool true) ∧ Kept w w' := by
  have HA : Hid (∀ W, Calls Tryz.prog 36 #[] W fun e w' => e = .returned (.bool true) ∧ Kept W w') := Lib.hid fun W => awake39_ok W
  have HL := Lib.hid (fun W (h : Kept w W) => large_any v ps W (hv.kept h))
  obtain ⟨xa, xc, hxs, _⟩ := id hx
  obtain ⟨n, hn⟩ : ∃ n, n = xs.length := ⟨_, rfl⟩
  rw [← hn] at hxs
  obtain ⟨pa, pc, hps, _⟩ := id hv
  obtain ⟨pn, hpn⟩ : ∃ pn, pn = ps.length := ⟨_, rfl⟩
  rw [← hpn] at hps
  subst hxs hps
  have HX := Lib.hid hx
  have HRV := Lib.hid hv
  have HNN := Lib.hid hn
  have HPN := Lib.hid hpn
  clear hx hv hn hpn
  obtain ⟨mb, hmb⟩ : ∃ mb, mb = many9 n := ⟨_, rfl⟩
  have HMN : Hid (∀ W, Calls Tryz.prog 37 #[.slice xa n xc] W fun e w' => e = .returned (.bool mb) ∧ w' = W) := Lib.hid fun W => by rw [hmb]; exact many39_any xa n xc W
  have HSM : Hid (mb = false → n ≤ 6 ∨ 12 < n) := Lib.hid fun h => many9_small (hmb ▸ h)
  clear hmb
  go_enter Tryz.func12, Tryz.ntmps12
  go_wp2_with fail
  refine (HA.out _).mono ?_
  rintro e w1 ⟨rfl, hk1⟩
  have HK1 := Lib.hid hk1
  clear hk1
  go_wp2_with fail
  refine (HMN.out _).mono ?_
  rintro e w2 ⟨rfl, h2⟩
  rw [h2]
  clear h2
  cases mb with
  | true =>
    go_wp2_with fail
    refine (HA.out _).mono ?_
    rintro e w3 ⟨rfl, hk3⟩
    go_wp2
    go_ret
    exact ⟨rfl, HK1.out.trans hk3⟩
  | false =>
    go_wp2_with fail
    refine (HL.out _ HK1.out).mono ?_
    rintro e w2 ⟨⟨u2, rfl, bb, rfl, hbb⟩, hk2⟩
    have HK2 := Lib.hid (HK1.out.trans hk2)
    have HBB := Lib.hid hbb
    clear hk2 hbb
    cases bb with
    | true =>
      go_wp2_with fail
      refine (HA.out _).mono ?_
      rintro e w3 ⟨rfl, hk3⟩
      go_wp2
      go_ret
      exact ⟨rfl, HK2.out.trans hk3⟩
    | false =>
      obtain ⟨h30, hs3⟩ := HBB.out rfl
      have HPV := Lib.hid (HRV.out.small fun r hr => ⟨Nat.le_trans (hs3 r hr).1 (by omega), Nat.le_trans (hs3 r hr).2 (by omega)⟩)
      have HN6 : Hid (xs.length ≤ 6 ∨ 12 < xs.length) := Lib.hid (by rw [← HNN.out]; first | exact HSM.out rfl | exact HSM.out trivial | simpa using HSM.out)
      have HS3 := Lib.hid hs3
      have H30 := Lib.hid h30
      clear h30 hs3
      obtain ⟨rb, hrb⟩ : ∃ rb, rb = decide (incE xs ps 0 = 0) := ⟨_, rfl⟩
      have HRY : Hid (∀ W, Kept w W → Calls Tryz.prog 42 #[.slice xa n xc, .slice pa pn pc] W fun e w' => e = .returned (.bool rb) ∧ Kept W w') := Lib.hid fun W h => by
        rw [hrb]
        exact ready39_any _ _ xs ps W (HX.out.kept h) (HPV.out.kept h) HS3.out H30.out HN6.out
      have HRQ : Hid (rb = true → Rdy xs ps) := Lib.hid fun h => (incE_zero (of_decide_eq_true (hrb ▸ h))).1
      clear hrb
      go_wp2_with fail
      refine (HRY.out _ HK2.out).mono ?_
      rintro e w3 ⟨rfl, hk3⟩
      have HK3 := Lib.hid (HK2.out.trans hk3)
      clear hk3
      cases rb with
      | false =>
        go_wp2_with fail
        refine (HA.out _).mono ?_
        rintro e w4 ⟨rfl, hk4⟩
        go_wp2
        go_ret
        exact ⟨rfl, HK3.out.trans hk4⟩
      | true =>
        have HRD := Lib.hid (HRQ.out rfl)
        clear HRQ HRY HMN HSM HBB
        have hl6 : xs.length ≤ 6 := by
          have h1 := HN6.out
          have h2 := HRD.out.len
          omega
        have HL6 := Lib.hid hl6
        obtain ⟨ss, hss⟩ : ∃ ss, ss = natsI xs := ⟨_, rfl⟩
        have HSS := Lib.hid hss
        have HXN : Hid (xs = ofN ss ∧ ss.length = n) := Lib.hid (by
          rw [hss, HRD.out.nlen, HNN.out]
          exact ⟨(nats_of (chk_ok HRD.out.ok).2).1, rfl⟩)
        have HSM : Hid (∀ k, k ≤ n → (canR (sumQ ss ps k)).Short 1000) := Lib.hid fun k hk => by
          have h := sum_short (ss := ss) H30.out HS3.out HPV.out.ok k
          have := HNN.out
          have := HL6.out
          exact ⟨Nat.le_trans h.1 (by omega), Nat.le_trans h.2 (by omega)⟩
        have HPS : Hid (∀ s, (canR (prodQ s ps ps.length)).Short 1000) := Lib.hid fun s => by
          have h := prod_short (s := s) HS3.out HPV.out.ok ps.length (Nat.le_refl _)
          have := H30.out
          exact ⟨Nat.le_trans h.1 (by omega), Nat.le_trans h.2 (by omega)⟩
        have HZ0 : Hid (∀ W, Kept w W → Calls Tryz.prog 48 #[.slice xa n xc, .slice pa pn pc, .int .i64 0] W fun e w' => (∃ v', e = .returned (.tuple #[v', .nilIface]) ∧ RatAt w' v' (canR 1)) ∧ Kept W w') := Lib.hid fun W h => by
          have h1 := isum_any _ _ xs ps 0 W (HX.out.kept h) (HPV.out.kept h) HS3.out H30.out HN6.out
          have h2 := HRD.out.inc (k := 0) (by omega) (by omega)
          rw [sumV, if_pos h2, h2, errV_zero, show Int.toNat 0 = 0 from rfl, inc_zero] at h1
          exact h1
        have HZ1 : Hid (∀ W, Kept w W → Calls Tryz.prog 48 #[.slice xa n xc, .slice pa pn pc, .int .i64 1] W fun e w' => (∃ v', e = .returned (.tuple #[v', .nilIface]) ∧ RatAt w' v' (canR (sumQ ss ps n))) ∧ Kept W w') := Lib.hid fun W h => by
          have h1 := isum_any _ _ xs ps 1 W (HX.out.kept h) (HPV.out.kept h) HS3.out H30.out HN6.out
          have h2 := HRD.out.inc (k := 1) (by omega) (by omega)
          have h3 := inc_one ps ss ss.length (Nat.le_refl _)
          rw [List.take_length, HXN.out.2] at h3
          rw [sumV, if_pos h2, h2, errV_zero, show Int.toNat 1 = 1 from rfl, ← hss, h3] at h1
          exact h1
        have HEA : Hid (∀ s, s ∈ ss → ∀ W u, Kept w W → IntsAt W u [(s : Int)] → Calls Tryz.prog 48 #[u, .slice pa pn pc, .int .i64 1] W fun e w' => (∃ v', e = .returned (.tuple #[v', .nilIface]) ∧ RatAt w' v' (canR (prodQ s ps ps.length))) ∧ Kept W w') := Lib.hid fun s hs W u h hu => by
          have hr := rdy_single HRD.out (s := s) (by rw [← HSS.out]; exact hs)
          have h1 := isum_any u _ [(s : Int)] ps 1 W hu (HPV.out.kept h) HS3.out H30.out (Or.inl (by simp))
          have h2 := hr.inc (k := 1) (by omega) (by omega)
          rw [sumV, if_pos h2, h2, errV_zero, show natsI [(s : Int)] = [s] from rfl, show Int.toNat 1 = 1 from rfl, inc_single] at h1
          exact h1
        have HEB : Hid (∀ s, s ∈ ss → ∀ W u, Kept w W → CbsAt W u [((s : Int), 0)] → Calls Tryz.prog 28 #[u, .slice pa pn pc] W fun e w' => (∃ v', e = .returned (.tuple #[v', .nilIface]) ∧ RatAt w' v' (canR (prodQ s ps ps.length))) ∧ Kept W w') := Lib.hid fun s hs W u h hu => by
          have h1 := dprob_any u _ [((s : Int), 0)] ps W hu (HPV.out.kept h) HS3.out H30.out
          rw [prb_single HRD.out (s := s) (by rw [← HSS.out]; exact hs), errV_zero] at h1
          exact h1
        have HFC : Hid (∀ W, Kept w W → Calls Tryz.prog 34 #[.slice xa n xc] W fun e w' => e = .returned .nilIface ∧ Kept W w') := Lib.hid fun W h => by
          have h1 := fcheck_any _ xs W (HX.out.kept h)
          rw [HRD.out.ok, errV_zero] at h1
          exact h1
        have HOF : Hid (∀ W, Calls Tryz.prog 55 #[.int .i64 1] W fun e w' => (∃ v', e = .returned v' ∧ RatAt w' v' (canR 1)) ∧ Kept W w') := Lib.hid fun W => rof_any 1 W (by omega) (by omega)
        have HCE : Hid (∀ q : Rat, (canR q).Short 1000 → ∀ W u1 u2, RatAt W u1 (canR q) → RatAt W u2 (canR q) → Calls Tryz.prog 44 #[u1, u2] W fun e w' => e = .returned (.int .i64 0) ∧ Kept W w') := Lib.hid fun q hq W u1 u2 h1 h2 => by
          have h := rcmp_any u1 u2 _ _ W h1 h2 ⟨Nat.le_trans hq.1 (by omega), Nat.le_trans hq.2 (by omega)⟩ ⟨Nat.le_trans hq.1 (by omega), Nat.le_trans hq.2 (by omega)⟩
          rw [Rat.sub_self] at h
          exact h
        have HC1 := Lib.hid (HCE.out 1 ⟨by decide +kernel, by decide +kernel⟩)
        have HCS := Lib.hid (HCE.out (sumQ ss ps n) (HSM.out n (Nat.le_refl _)))
        clear hss hl6
        go_wp2_with fail
        refine (HZ0.out _ HK3.out).mono ?_
        rintro e w4 ⟨⟨v, rfl, hv⟩, hk⟩
        obtain ⟨n4, l4, m4, a4, c4, b4, d4, w5, rfl, hw, hc, hk2, hr, _⟩ := hv.box
        have HC5 := Lib.hid hc
        have HW5 := Lib.hid hw
        have HV5 := Lib.hid hr
        have SK4 := Lib.hid hk
        have KB5 := Lib.hid hk2
        have SK5 := Lib.hid (hk.trans hk2)
        have HK5 := Lib.hid (HK3.out.trans SK5.out)
        clear hv hk hw hc hk2 hr
        go_wp2_with fail
        rw [← HW5.out]
        refine (HZ1.out _ HK5.out).mono ?_
        rintro e w6 ⟨⟨v, rfl, hv⟩, hk⟩
        obtain ⟨n6, l6, m6, a6, c6, b6, d6, w7, rfl, hw, hc, hk2, hr, _⟩ := hv.box
        have HC7 := Lib.hid hc
        have HW7 := Lib.hid hw
        have HV7 := Lib.hid hr
        have SK6 := Lib.hid hk
        have KB7 := Lib.hid hk2
        have SK7 := Lib.hid (hk.trans hk2)
        have HK7 := Lib.hid (HK5.out.trans SK7.out)
        clear hv hk hw hc hk2 hr
        obtain ⟨w8, hw8⟩ : ∃ w8, w8 = w7.alloc (.cells #[.bool false, .slice none 0 0, .slice none 0 0] 39) := ⟨_, rfl⟩
        have HZ7 : Hid (w7.heap.size = w6.heap.size + 1) := Lib.hid (by rw [HW7.out]; simp)
        have HC8 : Hid (RatCell w8 (w6.heap.size + 1) (canR (sumQ ss ps 0))) := Lib.hid (by rw [hw8, ← HZ7.out]; exact RatCell.zero w7)
        have HK78 : Hid (Kept w7 w8) := Lib.hid (by rw [hw8]; exact (Kept.refl _).alloc _)
        have HW8 := Lib.hid hw8
        clear hw8
        go_wp2_with fail
        rw [← HW7.out, ← HW8.out]
        have hn6 : n ≤ 6 := by rw [HNN.out]; exact HL6.out
        go_loopg [48] n (fun kx s48 wr => ∃ j : Nat, j ≤ n ∧ s48 = .int .i64 j ∧ n - j ≤ kx ∧ Hid (Kept w7 wr) ∧ Hid (RatCell wr (w6.heap.size + 1) (canR (sumQ ss ps j))))
        case atStart => exact ⟨0, Nat.zero_le _, rfl, by omega, HK78, HC8⟩
        case round =>
          obtain ⟨j, hj, rfl, hjx, HKq, HSr⟩ := hrel
          by_cases hlt : j < n
          · have hji : (j : Int) < (n : Int) := by omega
            have hjl : j < xs.length := by have := HNN.out; omega
            obtain ⟨s, hs, hsg, b, o, he, hce⟩ : ∃ s : Nat, s ∈ ss ∧ ss.getD j 0 = s ∧ ∃ b o, xa = some ⟨b, o, none⟩ ∧ w.cell? ⟨b, o + j, none⟩ = some (.int .i64 (s : Int)) := by
              obtain ⟨b, o, he, hce⟩ := HX.out.get j hjl
              have hjs : j < ss.length := by rw [HXN.out.2]; exact hlt
              have hxs : xs[j] = ((ss[j] : Nat) : Int) := (List.getElem_of_eq HXN.out.1 hjl).trans (by simp [ofN])
              exact ⟨ss[j], List.getElem_mem hjs, by simp [List.getD_eq_getElem?_getD, hjs], b, o, he, by rw [← hxs]; exact hce⟩
            subst he
            have hst := sumQ_succ ss ps j
            rw [hsg] at hst
            have HAD : Hid (∀ W u1 u2, RatAt W u1 (canR (sumQ ss ps j)) → RatAt W u2 (canR (prodQ s ps ps.length)) → Calls Tryz.prog 47 #[u1, u2] W fun e w' => (∃ v', e = .returned v' ∧ RatAt w' v' (canR (sumQ ss ps (j + 1)))) ∧ Kept W w') := Lib.hid fun W u1 u2 k1 k2 => by
              have s1 := HSM.out j (Nat.le_of_lt hlt)
              have s2 := HPS.out s
              have h := radd_any u1 u2 _ _ W k1 k2 ⟨Nat.le_trans s1.1 (by omega), Nat.le_trans s1.2 (by omega)⟩ ⟨Nat.le_trans s2.1 (by omega), Nat.le_trans s2.2 (by omega)⟩
              rw [ratOf_can, ratOf_can, ← hst] at h
              exact h
            have HES := Lib.hid (HEA.out s hs)
            have HET := Lib.hid (HEB.out s hs)
            have HCX := Lib.hid (HCE.out _ (HPS.out s))
            have hcr := (HK7.out.trans HKq.out).cell hce
            have HKw := Lib.hid (HK7.out.trans HKq.out)
            clear hs hsg hst hjl hce
            obtain ⟨wo, rfl⟩ : ∃ wo : World, wo = wr := ⟨_, rfl⟩
            obtain ⟨w9, hw9⟩ : ∃ w9, w9 = wo.alloc (.cells #[.int .i64 (s : Int)] 3) := ⟨_, rfl⟩
            have HI9 : Hid (IntsAt w9 (.slice (some ⟨wo.heap.size, 0, none⟩) 1 1) [(s : Int)]) := Lib.hid (by rw [hw9]; exact ints_one wo s)
            have KO9 : Hid (Kept wo w9) := Lib.hid (by rw [hw9]; exact (Kept.refl _).alloc _)
            have HW9 := Lib.hid hw9
            clear hw9
            go_wp2_with fail
            rw [← HW9.out]
            refine (HES.out _ _ (HKw.out.trans KO9.out) HI9.out).mono ?_
            rintro e w10 ⟨⟨v, rfl, hv⟩, hk⟩
            obtain ⟨n1, l1, m1, a1, c1, b1, d1, w11, rfl, hw, hc, hk2, hr, hz⟩ := hv.box
            have HC11 := Lib.hid hc
            have HW11 := Lib.hid hw
            have KO11 := Lib.hid (KO9.out.trans (hk.trans hk2))
            obtain ⟨w12, hw12⟩ : ∃ w12, w12 = w11.alloc (.cells #[.int .i64 (s : Int), .int .i64 0] 55) := ⟨_, rfl⟩
            have HB12 : Hid (CbsAt w12 (.slice (some ⟨w10.heap.size + 1, 0, none⟩) 1 1) [((s : Int), 0)]) := Lib.hid (by rw [hw12, ← hz]; exact cbs_one w11 ((s : Int), 0))
            have K112 : Hid (Kept w11 w12) := Lib.hid (by rw [hw12]; exact (Kept.refl _).alloc _)
            have HW12 := Lib.hid hw12
            clear hv hk hw hc hk2 hr hz hw12 hcr
            go_wp2_with fail
            rw [← HW11.out, ← HW12.out]
            refine (HET.out _ _ (HKw.out.trans (KO11.out.trans K112.out)) HB12.out).mono ?_
            rintro e w13 ⟨⟨v, rfl, hv⟩, hk⟩
            obtain ⟨n2, l2, m2, a2, c2, b2, d2, w14, rfl, hw, hc, hk2, hr, hz⟩ := hv.box
            have HW14 := Lib.hid hw
            have HV14 := Lib.hid hr
            have KB14 := Lib.hid hk2
            have K1113 := Lib.hid (K112.out.trans hk)
            clear hv hk hw hc hk2 hr hz
            obtain ⟨x1, x2, x3, ex1, ex2, ex3, ex4, yx0, yx1, yx2, hlx, HRx⟩ := (HC11.out.kept K1113.out).read
            go_wp2_with fail
            rw [← HW14.out]
            refine (HCX.out _ _ _ (HRx.out.kept KB14.out) HV14.out).mono ?_
            rintro e w15 ⟨rfl, hk15⟩
            have K1115 := Lib.hid (K1113.out.trans (KB14.out.trans hk15))
            have KO15 := Lib.hid (KO11.out.trans K1115.out)
            clear yx0 yx1 yx2 hlx HRx
            clear hk15
            obtain ⟨x1, x2, x3, ex1, ex2, ex3, ex4, yx0, yx1, yx2, hlx, HRx⟩ := (HC11.out.kept K1115.out).read
            obtain ⟨s1, s2, s3, es1, es2, es3, es4, ys0, ys1, ys2, hls, HRs⟩ := (HSr.out.kept KO15.out).read
            go_wp2_with fail
            refine (HAD.out _ _ _ HRs.out HRx.out).mono ?_
            rintro e w16 ⟨⟨v, rfl, hv⟩, hk⟩
            have KO16 := Lib.hid (KO15.out.trans hk)
            clear yx0 yx1 yx2 hlx HRx
            clear ys0 ys1 ys2 hls HRs
            obtain ⟨n5, l5, m5, g1, h1, g2, h2, w17, rfl, hw17, ⟨⟨z0, p0⟩, ⟨z1, p1⟩, ⟨z2, p2⟩⟩, ⟨f0, f1, f2⟩, hl6, _, _, HSN, HKP⟩ := (HSr.out.kept KO16.out).save hv
            have HKN := Lib.hid (HKP.out _ (HKq.out.trans KO16.out) (Nat.le_of_eq HZ7.out))
            rw [hw17] at HSN HKN
            clear hv hk hw17 HKP
            go_wp2_with fail
            go_roundg (n - (j + 1))
            case measure => omega
            case rel => exact ⟨j + 1, by omega, by go_num, Nat.le_refl _, HKN, HSN⟩
          · have hje : j = n := by omega
            have hji : ¬ (j : Int) < (n : Int) := by omega
            have HSN : Hid (RatCell wr (w6.heap.size + 1) (canR (sumQ ss ps n))) := Lib.hid (by rw [← hje]; exact HSr.out)
            clear hje
            obtain ⟨a1, a2, a3, ea1, ea2, ea3, ea4, ya0, ya1, ya2, hla, HRa⟩ := (HC5.out.kept (SK7.out.trans HKq.out)).read
            obtain ⟨b1, b2, b3, eb1, eb2, eb3, eb4, yb0, yb1, yb2, hlb, HRb⟩ := (HC7.out.kept HKq.out).read
            obtain ⟨c1, c2, c3, ec1, ec2, ec3, ec4, yc0, yc1, yc2, hlc, HRc⟩ := (HSN.out).read
            have HKf := Lib.hid (HK7.out.trans HKq.out)
            go_wp2_with fail
            go_region_with (first
              | (go_at_call 55; (with_reducible refine (HOF.out _).mono ?_); rintro e w18 ⟨⟨v, rfl, hv⟩, hk⟩; have KA : Hid (Kept wr w18) := Lib.hid ((Kept.refl wr).drew.trans hk); obtain ⟨t1, t2, t3, t4, t5, t6, t7, rfl⟩ := hv.parts; have HV18 := Lib.hid hv; have k0 := KA.out.cell ya0; have k1 := KA.out.cell ya1; have k2 := KA.out.cell ya2; clear hk hv)
              | (go_at_call 44; (with_reducible refine (HC1.out _ _ _ (HRa.out.kept KA.out) HV18.out).mono ?_); rintro e w19 ⟨rfl, hk⟩; have KB : Hid (Kept wr w19) := Lib.hid (KA.out.trans hk); have i0 := KB.out.cell yb0; have i1 := KB.out.cell yb1; have i2 := KB.out.cell yb2; have o0 := KB.out.cell yc0; have o1 := KB.out.cell yc1; have o2 := KB.out.cell yc2; clear hk)
              | (go_at_call 44; (with_reducible refine (HCS.out _ _ _ (HRb.out.kept KB.out) (HRc.out.kept KB.out)).mono ?_); rintro e w20 ⟨rfl, hk⟩; have KC : Hid (Kept wr w20) := Lib.hid (KB.out.trans hk); clear hk)
              | (go_at_call 34; (with_reducible refine (HFC.out _ (HKf.out.trans KC.out)).mono ?_); rintro e w21 ⟨rfl, hk⟩; have KD : Hid (Kept wr w21) := Lib.hid (KC.out.trans hk); clear hk))
            all_goals go_wp2
            all_goals go_ret
            all_goals exact ⟨rfl, HKf.out.trans KD.out⟩
end Go.Proofs.YtbkchheikkbebaaGreatDoor

/-
  Arguments that are lists of ints, of cubes, of fractions; laws of such arguments: from their walks to their rows' steps.
-/
namespace Go.Proofs.YtbkchheikkbebaaGreatDoor
open Go.RowKit Go.ChangeShapes Go.WideShapes Go.ChangeAt Go.Joins Go.Deep

/-- Cubes that can be read, however many. -/
def CbsRaw (w : World) (v : Value) (L : List (Int × Int)) : Prop :=
  ∃ (a : Option Addr) (c : Nat), v = .slice a L.length c ∧ (L.length ≤ c ∧ (a = none → c = 0)) ∧ L.length ≤ 140737488355328 ∧
    ∀ i (h : i < L.length), ∃ b o, a = some ⟨b, o, none⟩ ∧ w.rangeAt b (o + i * 2) (ccells L[i])
section
variable {H : Type} {enc : TypeId × Value → H} {W : World} {base : Nat}
set_option maxRecDepth 100000 in
theorem ints_arg {v : Value} {d : DataW H} {p : List MemPlace} (hv : Value.okWide Tryz.prog W .any base 22 v) (hb : ∀ n ∈ d.weights Tryz.prog 22, n ≤ reachBytes)
    (h : DataW.Trod enc Tryz.prog W 0 (fun _ => true) true 22 v d p) : ∃ xs : List Int, IntsAt W v xs := by
  obtain ⟨fuel, h1f⟩ := h
  obtain ⟨u, xs, e3, hps, _⟩ := ints_open hb h1f
  obtain ⟨a, c, rfl, _⟩ := id hps
  obtain ⟨a2, n2, c2, h5⟩ := okWide_slice Tryz.underlying22 hv
  subst h5
  have e4 : Value.slice a xs.length c = .slice a2 n2 c2 := by simpa [Value.cells] using e3.symm
  rw [← e4]
  exact ⟨xs, hps⟩
set_option maxRecDepth 100000 in
theorem rats_arg {v : Value} {d : DataW H} {p : List MemPlace} (hv : Value.okWide Tryz.prog W .any base 35 v) (hb : ∀ n ∈ d.weights Tryz.prog 35, n ≤ reachBytes)
    (h : DataW.Trod enc Tryz.prog W 0 (fun _ => true) true 35 v d p) : ∃ xs : List Rw, RatsRaw W v xs := by
  obtain ⟨fuel, h1f⟩ := h
  obtain ⟨u, xs, e3, hps⟩ := rats_open hb h1f
  obtain ⟨a, c, rfl, _⟩ := id hps
  obtain ⟨a2, n2, c2, h5⟩ := okWide_slice Tryz.underlying35 hv
  subst h5
  have e4 : Value.slice a xs.length c = .slice a2 n2 c2 := by simpa [Value.cells] using e3.symm
  rw [← e4]
  exact ⟨xs, hps⟩
end
set_option maxRecDepth 100000 in
theorem liftI {s : ChangeSpec} (F : FuncId) (fn : Func) (hs1 : s.vars = []) (hs2 : ∀ (H : Type) (d : DataW H), s.fn H [d] = { results := [.lit (.bool true)], args := [d] })
    (hp : fn.params = #[22]) (hr : fn.resultTypes = #[4])
    (walk : ∀ (W : World) (v : Value) (xs : List Int), IntsAt W v xs → Calls Tryz.prog F #[v] W fun e w' => e = .returned (.bool true) ∧ Kept W w')
    {H : Type} {enc : TypeId × Value → H} (W : World) (base : Nat) (args : Array Value) (ds gs : List (DataW H)) (before : List MemPlace)
    (hval : ∀ (j : Nat) t v, fn.params[j]? = some t → args[j]? = some v → Value.okWide Tryz.prog W .any base t v)
    (hW : DataW.Whole enc Tryz.prog fn.params.toList s.vars false W args.toList ds gs before)
    (hsz : (DataW.weightsEach Tryz.prog (fn.params.toList ++ s.plain.varTypes Tryz.prog) (ds ++ gs)).all (· ≤ reachBytes) = true) :
    Calls Tryz.prog F args W fun e W' => ∃ v, e = .returned v ∧ s.post enc Tryz.prog fn false true false false W args v W' := by
  have hW' := hW
  obtain ⟨p, q, hA, hV, rfl, hfz, _⟩ := hW
  rw [hs1] at hV
  obtain ⟨rfl, rfl⟩ := trodVars_none hV
  rw [hp] at hA hval hsz
  obtain ⟨v0, d0, rfl, rfl, h0⟩ := trodAll_one hA
  have h0k := h0
  obtain ⟨xs, hx⟩ := ints_arg (hval 0 _ _ rfl rfl) (fun n hn => by
    have := List.all_eq_true.1 hsz n (DataW.weights_mem_each (j := 0) rfl rfl n hn)
    simpa using this) h0
  have hlt : ∀ x ∈ p, x.block < W.heap.size := fun x hx => hW'.lt x (by simp [hx])
  refine (walk W v0 xs hx).mono fun e W' ⟨he, hk⟩ => ?_
  subst he
  refine ⟨_, rfl, [d0], [], p ++ [], [], p, [], hW', ?_, ?_, ?_, Below.frame hk _, fun h => by cases h⟩
  · rw [hr]
    simp only [List.append_nil, hs2]
    exact trodAll_mk1 (shut_bool Tryz.underlying4 _)
  · rw [hp]
    simp only [List.append_nil, hs2]
    exact trodAll_mk1 (Below.trod laidOutK (by kernel_rfl) (of_decide_eq_true (by kernel_rfl)) h0k hk hlt)
  · rw [hs1]
    simp only [List.append_nil, hs2]
    rfl
set_option maxRecDepth 100000 in
theorem liftIR {s : ChangeSpec} (F : FuncId) (fn : Func) (hs1 : s.vars = []) (hs2 : ∀ (H : Type) (d1 d2 : DataW H), s.fn H [d1, d2] = { results := [.lit (.bool true)], args := [d1, d2] })
    (hp : fn.params = #[22, 35]) (hr : fn.resultTypes = #[4])
    (walk : ∀ (W : World) (cv v : Value) (xs : List Int) (ps : List Rw), IntsAt W cv xs → RatsRaw W v ps → Calls Tryz.prog F #[cv, v] W fun e w' => e = .returned (.bool true) ∧ Kept W w')
    {H : Type} {enc : TypeId × Value → H} (W : World) (base : Nat) (args : Array Value) (ds gs : List (DataW H)) (before : List MemPlace)
    (hval : ∀ (j : Nat) t v, fn.params[j]? = some t → args[j]? = some v → Value.okWide Tryz.prog W .any base t v)
    (hW : DataW.Whole enc Tryz.prog fn.params.toList s.vars false W args.toList ds gs before)
    (hsz : (DataW.weightsEach Tryz.prog (fn.params.toList ++ s.plain.varTypes Tryz.prog) (ds ++ gs)).all (· ≤ reachBytes) = true) :
    Calls Tryz.prog F args W fun e W' => ∃ v, e = .returned v ∧ s.post enc Tryz.prog fn false true false false W args v W' := by
  have hW' := hW
  obtain ⟨p, q, hA, hV, rfl, hfz, _⟩ := hW
  rw [hs1] at hV
  obtain ⟨rfl, rfl⟩ := trodVars_none hV
  rw [hp] at hA hval hsz
  obtain ⟨v0, v1, d0, d1, p0, p1, rfl, rfl, rfl, h0, h1⟩ := trodAll_two hA
  have h0k := h0
  have h1k := h1
  obtain ⟨xs, hx⟩ := ints_arg (hval 0 _ _ rfl rfl) (fun n hn => by
    have := List.all_eq_true.1 hsz n (DataW.weights_mem_each (j := 0) rfl rfl n hn)
    simpa using this) h0
  obtain ⟨ps, hps⟩ := rats_arg (hval 1 _ _ rfl rfl) (fun n hn => by
    have := List.all_eq_true.1 hsz n (DataW.weights_mem_each (j := 1) rfl rfl n hn)
    simpa using this) h1
  have hlt : ∀ x ∈ p0 ++ p1, x.block < W.heap.size := fun x hx => hW'.lt x (by simpa using hx)
  refine (walk W v0 v1 xs ps hx hps).mono fun e W' ⟨he, hk⟩ => ?_
  subst he
  refine ⟨_, rfl, [d0, d1], [], (p0 ++ p1) ++ [], [], p0 ++ p1, [], hW', ?_, ?_, ?_, Below.frame hk _, fun h => by cases h⟩
  · rw [hr]
    simp only [List.append_nil, hs2]
    exact trodAll_mk1 (shut_bool Tryz.underlying4 _)
  · rw [hp]
    simp only [List.append_nil, hs2]
    exact trodAll_mk2 (Below.trod laidOutK (by kernel_rfl) (of_decide_eq_true (by kernel_rfl)) h0k hk (fun x hx => hlt x (by simp [hx]))) (Below.trod laidOutK (by kernel_rfl) (of_decide_eq_true (by kernel_rfl)) h1k hk (fun x hx => hlt x (by simp [hx])))
  · rw [hs1]
    simp only [List.append_nil, hs2]
    rfl
end Go.Proofs.YtbkchheikkbebaaGreatDoor

/-
  Lift: laws of a list of ints, fractions and an int.
-/
namespace Go.Proofs.YtbkchheikkbebaaGreatDoor
open Go.RowKit Go.ChangeShapes Go.WideShapes Go.ChangeAt Go.Joins Go.Deep

set_option maxRecDepth 100000 in
theorem liftIRN {s : ChangeSpec} (F : FuncId) (fn : Func) (hs1 : s.vars = []) (hs2 : ∀ (H : Type) (d1 d2 d3 : DataW H), s.fn H [d1, d2, d3] = { results := [.lit (.bool true)], args := [d1, d2, d3] })
    (hp : fn.params = #[22, 35, 3]) (hr : fn.resultTypes = #[4])
    (walk : ∀ (W : World) (cv v : Value) (xs : List Int) (ps : List Rw) (k : Int), IntsAt W cv xs → RatsRaw W v ps → (Lit.int .i64 k).wf = true → Calls Tryz.prog F #[cv, v, .int .i64 k] W fun e w' => e = .returned (.bool true) ∧ Kept W w')
    {H : Type} {enc : TypeId × Value → H} (W : World) (base : Nat) (args : Array Value) (ds gs : List (DataW H)) (before : List MemPlace)
    (hval : ∀ (j : Nat) t v, fn.params[j]? = some t → args[j]? = some v → Value.okWide Tryz.prog W .any base t v)
    (hW : DataW.Whole enc Tryz.prog fn.params.toList s.vars false W args.toList ds gs before)
    (hsz : (DataW.weightsEach Tryz.prog (fn.params.toList ++ s.plain.varTypes Tryz.prog) (ds ++ gs)).all (· ≤ reachBytes) = true) :
    Calls Tryz.prog F args W fun e W' => ∃ v, e = .returned v ∧ s.post enc Tryz.prog fn false true false false W args v W' := by
  have hW' := hW
  obtain ⟨p, q, hA, hV, rfl, hfz, _⟩ := hW
  rw [hs1] at hV
  obtain ⟨rfl, rfl⟩ := trodVars_none hV
  rw [hp] at hA hval hsz
  obtain ⟨v0, v1, v2, d0, d1, d2, p0, p1, p2, rfl, rfl, rfl, h0, h1, h2⟩ := trodAll_three hA
  have h0k := h0
  have h1k := h1
  have h2k := h2
  obtain ⟨xs, hx⟩ := ints_arg (hval 0 _ _ rfl rfl) (fun n hn => by
    have := List.all_eq_true.1 hsz n (DataW.weights_mem_each (j := 0) rfl rfl n hn)
    simpa using this) h0
  obtain ⟨ps, hps⟩ := rats_arg (hval 1 _ _ rfl rfl) (fun n hn => by
    have := List.all_eq_true.1 hsz n (DataW.weights_mem_each (j := 1) rfl rfl n hn)
    simpa using this) h1
  obtain ⟨k, rfl, rfl, rfl, wk⟩ := open_int Tryz.underlying3 (hval 2 _ _ rfl rfl) h2
  have hlt : ∀ x ∈ p0 ++ p1, x.block < W.heap.size := fun x hx => hW'.lt x (by simpa using hx)
  refine (walk W v0 v1 xs ps k hx hps wk).mono fun e W' ⟨he, hk⟩ => ?_
  subst he
  refine ⟨_, rfl, [d0, d1, .lit (.int .i64 k)], [], (p0 ++ p1 ++ []) ++ [], [], p0 ++ p1 ++ [], [], hW', ?_, ?_, ?_, Below.frame hk _, fun h => by cases h⟩
  · rw [hr]
    simp only [List.append_nil, hs2]
    exact trodAll_mk1 (shut_bool Tryz.underlying4 _)
  · rw [hp]
    simp only [List.append_nil, hs2]
    have := trodAll_mk3 (Below.trod laidOutK (by kernel_rfl) (of_decide_eq_true (by kernel_rfl)) h0k hk (fun x hx => hlt x (by simp [hx]))) (Below.trod laidOutK (by kernel_rfl) (of_decide_eq_true (by kernel_rfl)) h1k hk (fun x hx => hlt x (by simp [hx]))) (Below.trod laidOutK (by kernel_rfl) (of_decide_eq_true (by kernel_rfl)) h2k hk (fun x hx => by cases hx))
    simpa using this
  · rw [hs1]
    simp only [List.append_nil, hs2]
    rfl
end Go.Proofs.YtbkchheikkbebaaGreatDoor

/-
  The words of the program's head: read once, without its characters being decoded word by word.
-/
namespace Go.Proofs.YtbkchheikkbebaaGreatDoor
open Go.RowKit

def chW (l : List Nat) : List Char := l.map Char.ofNat
theorem ws_word (w r : List Char) (h : ∀ c ∈ w, c ≠ Char.ofNat 32) : wordsSigns (w ++ Char.ofNat 32 :: r) = w :: wordsSigns r := by
  induction w with
  | nil => rfl
  | cons c w ih =>
    have hc : c ≠ Char.ofNat 32 := h c (by simp)
    have ih' := ih fun d hd => h d (List.mem_cons_of_mem _ hd)
    show wordsSigns (c :: (w ++ Char.ofNat 32 :: r)) = _
    rw [wordsSigns.eq_3 _ _ (by intro e; exact hc e), ih']
theorem apart (l : List Nat) (h : ((chW l).all fun c => c != Char.ofNat 32) = true) : ∀ c ∈ chW l, c ≠ Char.ofNat 32 := by
  intro c hc
  simpa using List.all_eq_true.1 h c hc
def wH : List Nat := [104, 97, 114, 110, 101, 115, 115]
def wS : List Nat := [51, 51, 57, 57, 101, 100, 97, 98, 100, 52, 56, 54, 49, 98, 102, 48, 101, 54, 52, 102, 48, 54, 53, 54, 52, 97, 57, 100, 57, 48, 97, 57, 48, 53, 49, 52, 101, 98, 51, 98, 55, 51, 54, 100, 57, 57, 53, 100, 54, 98, 48, 51, 100, 50, 98, 102, 55, 48, 54, 98, 101, 97, 100, 55]
def wC : List Nat := [99, 117, 116]
def wR : List Nat := [97, 116, 32, 102, 97, 117, 108, 116, 108, 105, 110, 101, 47, 102, 97, 117, 108, 116, 108, 105, 110, 101, 108, 97, 119, 51, 56, 46, 68, 105, 115, 106, 111, 105, 110, 116, 67, 117, 98, 101, 115, 32, 102, 97, 117, 108, 116, 108, 105, 110, 101, 47, 102, 97, 117, 108, 116, 108, 105, 110, 101, 108, 97, 119, 51, 56, 46, 68, 105, 115, 106, 111, 105, 110, 116, 80, 114, 111, 98, 115, 32, 102, 97, 117, 108, 116, 108, 105, 110, 101, 47, 102, 97, 117, 108, 116, 108, 105, 110, 101, 108, 97, 119, 51, 56, 46, 68, 105, 115, 106, 111, 105, 110, 116, 83, 116, 97, 116, 101, 115, 32, 102, 97, 117, 108, 116, 108, 105, 110, 101, 47, 102, 97, 117, 108, 116, 108, 105, 110, 101, 108, 97, 119, 51, 56, 46, 68, 105, 115, 106, 111, 105, 110, 116, 66, 101, 102, 111, 114, 101, 32, 102, 97, 117, 108, 116, 108, 105, 110, 101, 47, 102, 97, 117, 108, 116, 108, 105, 110, 101, 108, 97, 119, 51, 57, 46, 73, 110, 99, 108, 117, 115, 105, 111, 110, 66, 111, 117, 110, 100, 115, 32, 102, 97, 117, 108, 116, 108, 105, 110, 101, 47, 102, 97, 117, 108, 116, 108, 105, 110, 101, 108, 97, 119, 51, 57, 46, 73, 110, 99, 108, 117, 115, 105, 111, 110, 65, 108, 116, 101, 114, 110, 97, 116, 101, 115, 32, 102, 97, 117, 108, 116, 108, 105, 110, 101, 47, 102, 97, 117, 108, 116, 108, 105, 110, 101, 108, 97, 119, 51, 56, 46, 68, 105, 115, 106, 111, 105, 110, 116, 82, 97, 110, 103, 101, 32, 102, 97, 117, 108, 116, 108, 105, 110, 101, 47, 102, 97, 117, 108, 116, 108, 105, 110, 101, 108, 97, 119, 51, 57, 46, 73, 110, 99, 108, 117, 115, 105, 111, 110, 83, 117, 109, 115, 32, 102, 97, 117, 108, 116, 108, 105, 110, 101, 47, 102, 97, 117, 108, 116, 108, 105, 110, 101, 108, 97, 119, 51, 57, 46, 73, 110, 99, 108, 117, 115, 105, 111, 110, 78, 97, 114, 114, 111, 119, 115, 32, 102, 97, 117, 108, 116, 108, 105, 110, 101, 47, 102, 97, 117, 108, 116, 108, 105, 110, 101, 108, 97, 119, 51, 57, 46, 73, 110, 99, 108, 117, 115, 105, 111, 110, 84, 111, 116, 97, 108, 115, 32, 102, 97, 117, 108, 116, 108, 105, 110, 101, 47, 102, 97, 117, 108, 116, 108, 105, 110, 101, 108, 97, 119, 51, 56, 46, 68, 105, 115, 106, 111, 105, 110, 116, 84, 111, 112, 115, 32, 102, 97, 117, 108, 116, 108, 105, 110, 101, 47, 102, 97, 117, 108, 116, 108, 105, 110, 101, 108, 97, 119, 51, 56, 46, 68, 105, 115, 106, 111, 105, 110, 116, 69, 120, 97, 99, 116, 32, 102, 97, 117, 108, 116, 108, 105, 110, 101, 47, 102, 97, 117, 108, 116, 108, 105, 110, 101, 108, 97, 119, 52, 48, 46, 69, 115, 97, 114, 121, 80, 114, 111, 100, 117, 99, 116, 115, 32, 102, 97, 117, 108, 116, 108, 105, 110, 101, 47, 102, 97, 117, 108, 116, 108, 105, 110, 101, 108, 97, 119, 52, 48, 46, 69, 115, 97, 114, 121, 66, 111, 117, 110, 100, 115, 32, 102, 97, 117, 108, 116, 108, 105, 110, 101, 47, 102, 97, 117, 108, 116, 108, 105, 110, 101, 108, 97, 119, 52, 48, 46, 69, 115, 97, 114, 121, 76, 105, 107, 101, 108, 105, 101, 115, 116, 32, 102, 97, 117, 108, 116, 108, 105, 110, 101, 47, 102, 97, 117, 108, 116, 108, 105, 110, 101, 108, 97, 119, 52, 48, 46, 69, 115, 97, 114, 121, 82, 105, 115, 101, 115, 32, 102, 97, 117, 108, 116, 108, 105, 110, 101, 47, 102, 97, 117, 108, 116, 108, 105, 110, 101, 108, 97, 119, 52, 48, 46, 69, 115, 97, 114, 121, 65, 112, 97, 114, 116, 32, 102, 97, 117, 108, 116, 108, 105, 110, 101, 47, 102, 97, 117, 108, 116, 108, 105, 110, 101, 108, 97, 119, 52, 48, 46, 69, 115, 97, 114, 121, 69, 110, 99, 108, 111, 115, 101, 115]
theorem pf_order : Tryz.prog.initOrder = String.ofList (chW wH ++ Char.ofNat 32 :: (chW wS ++ Char.ofNat 32 :: (chW wC ++ Char.ofNat 32 :: chW wR))) := by kernel_rfl
theorem pf_words : wordsSigns Tryz.prog.initOrder.toList = chW wH :: chW wS :: chW wC :: wordsSigns (chW wR) := by
  rw [pf_order, String.toList_ofList, ws_word _ _ (apart _ (by kernel_rfl)), ws_word _ _ (apart _ (by kernel_rfl)), ws_word _ _ (apart _ (by kernel_rfl))]
theorem pf_behind : behindMainWord (wordsSigns Tryz.prog.initOrder.toList) = chW wC :: wordsSigns (chW wR) := by
  rw [pf_words]
  generalize wordsSigns (chW wR) = W
  have h : ((chW wH == "harness".toList || chW wH == "ownmain".toList) && isSumSigns (chW wS)) = true := by kernel_rfl
  unfold behindMainWord
  exact if_pos h
theorem pf_later : Tryz.prog.laysLater = false := by kernel_rfl
theorem pf_reflect : Tryz.prog.bearsReflect = false := by kernel_rfl
theorem pf_door : Tryz.prog.doorFits [] = true := by kernel_rfl
theorem pf_strip (W : List (List Char)) : stripLifts liftWords (chW wC :: W) = ([], chW wC :: W) := by kernel_rfl
theorem enter_of {P : Program} {c : List Char} {W : List (List Char)} (h : behindMainWord (wordsSigns P.initOrder.toList) = c :: W) (hs : stripLifts liftWords (c :: W) = ([], c :: W))
    (hc : c = "cut".toList) (hl : P.laysLater = false) (hr : P.bearsReflect = false) (hd : P.doorFits [] = true) : P.mayEnter = true := by
  have hh : ((c :: W).head? == some "cut".toList) = true := by rw [hc]; simp
  unfold Program.mayEnter
  rw [h]
  simp only [hs, hl, hr, hd, hh]
  simp
theorem main_of {P : Program} {h s : List Char} {W : List (List Char)} (hw : wordsSigns P.initOrder.toList = h :: s :: W) (hs : isSumSigns s = true) (hh : (h == "harness".toList) = true) : P.mainIs = some (true, s) := by
  unfold Program.mainIs
  rw [hw]
  simp only [hs, hh]
  rfl
theorem lifts_of {P : Program} {c : List Char} {W : List (List Char)} (h : behindMainWord (wordsSigns P.initOrder.toList) = c :: W) (hs : stripLifts liftWords (c :: W) = ([], c :: W)) : P.headLifts = [] := by
  unfold Program.headLifts
  rw [h, hs]
  dsimp only
  split <;> rfl
theorem final_of {P : Program} {c : List Char} {W : List (List Char)} (h : behindMainWord (wordsSigns P.initOrder.toList) = c :: W) (hl : P.headLifts = []) (hc : (c == "carried".toList) = false) : P.liftsFinal = false := by
  unfold Program.liftsFinal
  rw [h, hl]
  have : ((c :: W).head? == some "carried".toList) = false := by
    rw [Bool.eq_false_iff] at hc ⊢
    intro e; apply hc
    simpa using e
  simp only [this]
  rfl
theorem make_of {P : Program} {c : List Char} {W : List (List Char)} (h : behindMainWord (wordsSigns P.initOrder.toList) = c :: W) (h0 : (c == "gc".toList) = false) (h1 : (c == "spec".toList) = false) (h2 : (c == "cut".toList) = true) : P.make = some .cut := by
  unfold Program.make
  rw [h]
  simp only [h0, h1, h2]
  rfl
theorem wC_cut : chW wC = "cut".toList := by kernel_rfl
theorem pf_enter : Tryz.prog.mayEnter = true := enter_of pf_behind (pf_strip _) wC_cut pf_later pf_reflect pf_door
theorem pf_main : Tryz.prog.mainIs = some (true, "3399edabd4861bf0e64f06564a9d90a90514eb3b736d995d6b03d2bf706bead7".toList) :=
  (main_of pf_words (by kernel_rfl) (by kernel_rfl)).trans (congrArg (fun x => some (true, x)) (show chW wS = _ by kernel_rfl))
theorem pf_lifts : Tryz.prog.headLifts = [] := lifts_of pf_behind (pf_strip _)
theorem pf_final : Tryz.prog.liftsFinal = false := final_of pf_behind pf_lifts (by kernel_rfl)
theorem pf_make : Tryz.prog.make = some .cut := make_of pf_behind (by kernel_rfl) (by kernel_rfl) (by kernel_rfl)
end Go.Proofs.YtbkchheikkbebaaGreatDoor

/-
  Facts of the program that each lift asks.
-/
namespace Go.Proofs.YtbkchheikkbebaaGreatDoor
open Go.RowKit Go.ChangeShapes Go.WideShapes Go.ChangeAt

theorem pf_laidout : (laidOutB Tryz.prog) = true := by kernel_rfl
theorem pf_mapsrowed : (mapsRowed Tryz.prog) = true := by kernel_rfl
theorem pf_stops : ((Tryz.prog.stops == [])) = true := by kernel_rfl
theorem pf_knobs : ((Tryz.prog.stopKnobs == [])) = true := by kernel_rfl
theorem pf_heard : (Tryz.prog.stopsHeard) = true := by kernel_rfl
theorem pf_looks : true = Tryz.pinned.checked.prog.looks [] := by kernel_rfl
end Go.Proofs.YtbkchheikkbebaaGreatDoor

/-
  Everything that the laws of chapter 39 stand on.
-/
namespace Go.Proofs.YtbkchheikkbebaaGreatDoor
theorem iz9 : True := trivial
end Go.Proofs.YtbkchheikkbebaaGreatDoor
