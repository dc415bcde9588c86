import Derived.WalkKit
import Derived.WalkSpells
import Derived.WalkLawsBesides
import Derived.Deep.QuietTactic
import Derived.BigQuiet
import Derived.Lib.Hide
import Derived.Shelf.Abstract
import Derived.Deep.RegionWith
import Derived.Laws.AppendOwnNone
import Derived.Lib.AppendZerosOnto
import Derived.Lib.SliceRun
import Derived.Lib.SlicesCompact
import Derived.Shelf.SlSortCmp.NoneTotal
import Derived.Maps.OwnOps
import Derived.Maps.OwnSet
import Derived.Maps.Views
import Derived.Deep.MidRow
import Derived.Deep.RegionHeld3
import Derived.Deep.AppendLies
import Derived.Deep.RegionLaw
import Derived.IntWalk
import Derived.StillTailTactics
import Derived.ProofKit
import Derived.OpenShut
import Derived.SizedLaws
import Derived.Lib.SmallJoins
import Derived.Deep.Slices
import Derived.Deep.Fields
import Derived.Deep.Strs
import Derived.Carry
import Derived.Deep.DeepCutAuto
import Derived.BigRegion
import Derived.ChangeAlike
import Derived.Deep.LoopGhost
import Derived.Lib.ItoaNum
import Derived.RegionTactic
import Derived.Shelf.SlSortCmp.PdqK
import Derived.Sort.LotA
import Derived.Sort.LotD2
import Derived.Lib.BitFns
import Derived.Deep.CutBlock
import Derived.Laws.IdiomStrings
import Derived.Test.YtbkchheikkbebaaGreatDoorDI7
import Derived.Test.YtbkchheikkbebaaGreatDoorDI1
import Derived.Test.YtbkchheikkbebaaGreatDoorDI6
import Derived.Test.YtbkchheikkbebaaGreatDoorDI5
/-
  Walks: inclusion.chance, inclusion.check, the reference's check. Printed by gen_EA3.py.
-/
namespace Go.Proofs.YtbkchheikkbebaaGreatDoor
open Go.RowKit

set_option maxRecDepth 100000 in
set_option maxHeartbeats 4000000 in
theorem chance_any (s : Nat) (v : Value) (ps : List Rw) (w : World) (hs : s < 16777216) (hv : RatsAt w v ps) (hp3 : ∀ r ∈ ps, r.Short 3) (hp30 : ps.length ≤ 30) :
    Calls Tryz.prog 193 #[.int .i64 s, v] w fun e w' => (∃ v', e = .returned v' ∧ RatAt w' v' (canR (prodQ s ps ps.length))) ∧ Kept w w' := by
  have HOF : Hid (∀ W, Calls Tryz.prog 55 #[.int .i64 1] W fun e w' => (∃ v', e = .returned v' ∧ RatAt w' v' (canR (prodQ s ps 0))) ∧ Kept W w') := Lib.hid fun W => rof_any 1 W (by omega) (by omega)
  have HH := Lib.hid (fun (i : Nat) W => hasS_any s i hs W)
  have HSH := Lib.hid (fun n hn => prod_short (s := s) hp3 hv.ok n hn)
  have HV := Lib.hid hv
  have HP3 := Lib.hid hp3
  obtain ⟨a, c, rfl⟩ := hv.shape
  obtain ⟨n, hn⟩ : ∃ n, n = ps.length := ⟨_, rfl⟩
  rw [← hn] at HV hp30 ⊢
  have HN := Lib.hid hn
  obtain ⟨R, hR⟩ : ∃ R, R = canR (prodQ s ps n) := ⟨_, rfl⟩
  rw [← hR]
  have HRR := Lib.hid hR
  clear hR
  obtain ⟨w2, hw2⟩ : ∃ w2, w2 = w.alloc (.cells #[.bool false, .slice none 0 0, .slice none 0 0] 39) := ⟨_, rfl⟩
  have HR : Hid (RowAt w2 w.heap.size 39 [.bool false, .slice none 0 0, .slice none 0 0]) := Lib.hid (by rw [hw2]; exact RowAt.made w #[.bool false, .slice none 0 0, .slice none 0 0] 39)
  have HFX : Hid (FixAt w2 w.heap.size [.bool false, .slice none 0 0, .slice none 0 0]) := Lib.hid (by rw [hw2]; exact FixAt.made w #[.bool false, .slice none 0 0, .slice none 0 0] 39)
  have HK0 : Hid (Kept w w2) := Lib.hid (by rw [hw2]; exact (Kept.refl w).alloc _)
  have HW2 := Lib.hid hw2
  clear hn hv hp3 hs hw2
  go_enter Tryz.func193, Tryz.ntmps193
  go_wp2_with fail
  rw [← HW2.out]
  refine (HOF.out _).mono ?_
  rintro e w3 ⟨⟨v3, rfl, hv3⟩, hk3⟩
  have HR3 := Lib.hid (HR.out.kept hk3)
  have HF3 := Lib.hid (HFX.out.kept hk3)
  have HK3 := Lib.hid (HK0.out.trans hk3)
  obtain ⟨u1, u2, rfl, h1, h2⟩ := hv3
  obtain ⟨a1, c1, rfl⟩ := h1.shape
  obtain ⟨a2, c2, rfl⟩ := h2.shape
  have HC := Lib.hid (RatCell.made h1 h2)
  obtain ⟨w4, hw4⟩ : ∃ w4, w4 = w3.alloc (.cells #[.bool (canR (prodQ s ps 0)).neg, .slice a1 (canR (prodQ s ps 0)).num.length c1, .slice a2 (canR (prodQ s ps 0)).den.length c2] 39) := ⟨_, rfl⟩
  have HW4 := Lib.hid hw4
  rw [← hw4] at HC
  have HK4 : Hid (Kept w3 w4) := Lib.hid (by rw [hw4]; exact (Kept.refl _).alloc _)
  generalize (canR (prodQ s ps 0)).neg = b0 at *
  generalize (canR (prodQ s ps 0)).num.length = l1 at *
  generalize (canR (prodQ s ps 0)).den.length = l2 at *
  clear h1 h2 hk3 hw4
  go_wp2_with fail
  rw [← HW4.out]
  go_loopg [10] n (fun kx s10 wr => ∃ k : Nat, k ≤ n ∧ s10 = .int .i64 k ∧ n - k ≤ kx ∧ Hid (RatCell wr w3.heap.size (canR (prodQ s ps k))) ∧ Hid (Kept w3 wr))
  case atStart => exact ⟨0, Nat.zero_le _, rfl, by omega, HC, HK4⟩
  case round =>
    obtain ⟨k, hk, rfl, hkx, HX, HKr⟩ := hrel
    by_cases hlt : k < n
    · have hkn : (k : Int) < (n : Int) := by omega
      cases hb : s.testBit k with
      | false =>
        have HCH : Hid (∀ W, Calls Tryz.prog 200 #[.int .i64 s, .int .i64 k] W fun e w' => e = .returned (.bool false) ∧ w' = W) := Lib.hid fun W => by have h := HH.out k W; rw [hb] at h; exact h
        have HST : Hid (prodQ s ps (k + 1) = prodQ s ps k) := Lib.hid (by rw [prodQ_succ, if_neg (by rw [hb]; simp)])
        clear hb
        go_wp2_with (go_at_call 200; refine (HCH.out _).mono ?_; rintro e w5 ⟨rfl, rfl⟩)
        go_roundg (n - (k + 1))
        case measure => omega
        case rel => exact ⟨k + 1, by omega, by go_num, Nat.le_refl _, Lib.hid (by rw [HST.out]; exact HX.out), HKr⟩
      | true =>
        have HCH : Hid (∀ W, Calls Tryz.prog 200 #[.int .i64 s, .int .i64 k] W fun e w' => e = .returned (.bool true) ∧ w' = W) := Lib.hid fun W => by have h := HH.out k W; rw [hb] at h; exact h
        have HST : Hid (canR (prodQ s ps (k + 1)) = canR (ratOf (canR (prodQ s ps k)) * ratOf (ps.getD k default))) := Lib.hid (by rw [prodQ_succ, if_pos hb, ratOf_can])
        have hkl : k < ps.length := by have := HN.out; omega
        have hsk := HSH.out k (by have := HN.out; omega)
        have hx3 : (ps.getD k default).Short 3 := by
          have e : ps.getD k default = ps[k] := by simp [List.getD_eq_getElem?_getD, hkl]
          rw [e]; exact HP3.out _ (List.getElem_mem _)
        obtain ⟨b, o, u1, u2, rfl, hrg, hw1, hw2⟩ := HV.out.get k hkl
        obtain ⟨a3, c3, rfl⟩ := hw1.shape
        obtain ⟨a4, c4, rfl⟩ := hw2.shape
        have HKw := Lib.hid (HK3.out.trans HKr.out)
        have hrg2 := range_same hrg HKw.out
        have y0 := hrg2 0 _ rfl
        have y1 := hrg2 1 _ rfl
        have y2 := hrg2 2 _ rfl
        rw [Nat.add_zero] at y0
        obtain ⟨a5, c5, a6, c6, ⟨x0, x1, x2⟩, ⟨f0, f1, f2⟩, hgl, hxa⟩ := HX.out.at
        have HML : Hid (∀ W, Kept wr W → Calls Tryz.prog 64 #[.agg #[.bool (canR (prodQ s ps k)).neg, .slice a5 (canR (prodQ s ps k)).num.length c5, .slice a6 (canR (prodQ s ps k)).den.length c6], .agg #[.bool (ps.getD k default).neg, .slice a3 (ps.getD k default).num.length c3, .slice a4 (ps.getD k default).den.length c4]] W fun e w' => (∃ v', e = .returned v' ∧ RatAt w' v' (canR (prodQ s ps (k + 1)))) ∧ Kept W w') := Lib.hid fun W hk => by
          rw [HST.out]
          exact rmul_any _ _ _ _ W (hxa.kept hk) ⟨_, _, rfl, hw1.kept (HKw.out.trans hk), hw2.kept (HKw.out.trans hk)⟩ ⟨Nat.le_trans hsk.1 (by omega), Nat.le_trans hsk.2 (by omega)⟩ ⟨Nat.le_trans hx3.1 (by omega), Nat.le_trans hx3.2 (by omega)⟩
        generalize (ps.getD k default).neg = z0 at *
        generalize (ps.getD k default).num.length = z1 at *
        generalize (ps.getD k default).den.length = z2 at *
        generalize (canR (prodQ s ps k)).neg = z3 at *
        generalize (canR (prodQ s ps k)).num.length = z4 at *
        generalize (canR (prodQ s ps k)).den.length = z5 at *
        clear hb hsk hx3 hrg hrg2 hw1 hw2 hxa hkl
        go_wp2_with (go_at_call 200; refine (HCH.out _).mono ?_; rintro e w5 ⟨rfl, rfl⟩)
        go_region_with (go_at_call 64; (with_reducible refine (HML.out _ (Kept.refl _).drew).mono ?_); rintro e w6 ⟨⟨v6, rfl, hv6⟩, hk6⟩; have hkd := (Kept.refl _).drew.trans hk6; have HX6 := Lib.hid (HX.out.kept hkd); have HK6 := Lib.hid (HKr.out.trans hkd); obtain ⟨u7, u8, rfl, k7, k8⟩ := hv6; obtain ⟨a7, c7, rfl⟩ := k7.shape; obtain ⟨a8, c8, rfl⟩ := k8.shape; have K7 := Lib.hid k7; have K8 := Lib.hid k8; obtain ⟨_, _, _, _, ⟨i0, i1, i2⟩, ⟨j0, j1, j2⟩, hgl6, _⟩ := HX6.out.at; clear k7 k8 hk6 hkd)
        all_goals
          have HS := Lib.hid (HX6.out.store K7.out K8.out)
          generalize (canR (prodQ s ps (k + 1))).num.length = n7 at *
          generalize (canR (prodQ s ps (k + 1))).den.length = n8 at *
          go_wp2_with fail
          go_roundg (n - (k + 1))
          case measure => omega
          case rel => exact ⟨k + 1, by omega, by go_num, Nat.le_refl _, HS, Lib.hid (((HK6.out.store (Nat.le_refl _) _ _).store (Nat.le_refl _) _ _).store (Nat.le_refl _) _ _)⟩
    · have hke : k = n := by omega
      have hkn : ¬ (k : Int) < (n : Int) := by omega
      have HX2 : Hid (RatCell wr w3.heap.size R) := Lib.hid (by rw [HRR.out, ← hke]; exact HX.out)
      have hrr := HR3.out.kept HKr.out
      have HFF := Lib.hid (HF3.out.kept HKr.out)
      obtain ⟨a5, c5, a6, c6, ⟨x0, x1, x2⟩, _, hgl, u7, u8, e9, k7, k8⟩ := HX2.out.at
      simp only [Value.agg.injEq] at e9
      have e9' := congrArg Array.toList e9
      simp at e9'
      obtain ⟨rfl, rfl⟩ := e9'
      obtain ⟨y0, y1, y2, hra⟩ := rat_stored hrr HFF.out k7 k8
      have g0 := hrr.cell (i := 0) (by simp)
      have g1 := hrr.cell (i := 1) (by simp)
      have g2 := hrr.cell (i := 2) (by simp)
      have f0 := hrr.free 0
      have f1 := hrr.free 1
      have f2 := hrr.free 2
      have HRA := Lib.hid hra
      have Y0 := Lib.hid y0
      have Y1 := Lib.hid y1
      have Y2 := Lib.hid y2
      have HKw := Lib.hid (HK3.out.trans HKr.out)
      clear hra y0 y1 y2 k7 k8 hrr e9 hke
      generalize R.num.length = n7 at *
      generalize R.den.length = n8 at *
      go_wp2
      refine bodyPost_ret (v := .agg #[.bool R.neg, .slice a5 n7 c5, .slice a6 n8 c6]) ?_ rfl ⟨⟨_, rfl, HRA.out⟩, ?_⟩
      · simp [results, Tryz.results193, go_sem, Y0.out, Y1.out, Y2.out]
      · exact ((HKw.out.store (Nat.le_refl _) _ _).store (Nat.le_refl _) _ _).store (Nat.le_refl _) _ _
set_option maxRecDepth 100000 in
set_option maxHeartbeats 8000000 in
theorem incheck_any (xv v : Value) (xs : List Int) (ps : List Rw) (k : Int) (w : World) (hx : IntsAt w xv xs) (hv : RatsAt w v ps) (h3 : ∀ r ∈ ps, r.Short 3) :
    Calls Tryz.prog 108 #[xv, v, .int .i64 k] w fun e w' => e = .returned (errV (incE xs ps k)) ∧ Kept w w' := by
  have HC1 : Hid (∀ W, Kept w W → Calls Tryz.prog 34 #[xv] W fun e w' => e = .returned (errV (chkI xs)) ∧ Kept W w') := Lib.hid fun W h => fcheck_any xv xs W (hx.kept h)
  obtain ⟨Q, hQ⟩ : ∃ Q, Q = incE xs ps k := ⟨_, rfl⟩
  rw [← hQ]
  unfold incE at hQ
  obtain ⟨xa, xc, hxs, hxc, hxl, hxg⟩ := id hx
  obtain ⟨m, hm⟩ : ∃ m, m = xs.length := ⟨_, rfl⟩
  rw [← hm] at hxs hQ
  subst hxs
  obtain ⟨pa, pc, rfl⟩ := hv.shape
  obtain ⟨q1, hq1⟩ : ∃ q1, q1 = chkI xs := ⟨_, rfl⟩
  rw [← hq1] at HC1 hQ
  have HF := Lib.hid hx
  have HV := Lib.hid hv
  have HM := Lib.hid hm
  have HQ := Lib.hid hQ
  have HQ1 := Lib.hid hq1
  have H3 := Lib.hid h3
  have hml : m ≤ 140737488355328 := by omega
  have hpl := hv.len
  clear hx hv hm hQ hq1 h3 hxc hxl hxg
  by_cases h1 : q1 = 0
  · subst h1
    rw [errV_zero] at HC1
    obtain ⟨hlen, hok⟩ := chk_ok (HQ1.out.symm)
    obtain ⟨hys, hmk⟩ := nats_of hok
    obtain ⟨ss, hss⟩ : ∃ ss, ss = natsI xs := ⟨_, rfl⟩
    have hq2 := HQ.out
    rw [if_neg (by simp), ← hss] at hq2
    rw [← hss] at hys hmk
    have hms : m = ss.length := by rw [HM.out, hss]; unfold natsI; rw [List.length_map]
    have HFS : Hid (IntsAt w (.slice xa m xc) (ofN ss)) := Lib.hid (by rw [← hys]; exact HF.out)
    have HMK : Hid (∀ s ∈ ss, s < 16777216) := Lib.hid fun s hs => by have := hmk s hs; unfold Mk at this; omega
    have HMS := Lib.hid hms
    have HQ2 := Lib.hid hq2
    have HPR : Hid (∀ j (hj : j < ps.length) W b o u1 u2, pa = some ⟨b, o, none⟩ → Kept w W → WdsAt W u1 (ps.getD j default).num → WdsAt W u2 (ps.getD j default).den → Calls Tryz.prog 46 #[.agg #[.bool (ps.getD j default).neg, u1, u2]] W fun e w' => e = .returned (.bool (probR (ps.getD j default))) ∧ Kept W w') := Lib.hid fun j hj W b o u1 u2 _ _ k1 k2 => by
      have e : ps.getD j default = ps[j] := by simp [List.getD_eq_getElem?_getD, hj]
      have h := H3.out ps[j] (List.getElem_mem _)
      rw [← e] at h
      exact rprob_any _ _ W ⟨_, _, rfl, k1, k2⟩ ⟨Nat.le_trans h.1 (by omega), Nat.le_trans h.2 (by omega)⟩
    have HGR : Hid (∀ (s : Nat) (W : World), s < 16777216 → Calls Tryz.prog 87 #[.int .i64 s] W fun e w' => e = .returned (.int .i64 (gtK s)) ∧ Kept W w') := Lib.hid fun s W hs => (great_any s hs W).mono fun _ _ ⟨h1, h2⟩ => ⟨h1, by rw [h2]; exact Kept.refl _⟩
    obtain ⟨pn, hpn⟩ : ∃ pn, pn = ps.length := ⟨_, rfl⟩
    rw [← hpn] at HQ2 hpl HV ⊢
    have HPN := Lib.hid hpn
    clear hq2 hys hmk hss hms hlen hok hpn
    by_cases h12 : 12 < m
    · have h12' : (12 : Int) < (m : Int) := by omega
      have HQV : Hid (Q = 4) := Lib.hid (by have h := HQ2.out; rw [if_pos h12] at h; exact h)
      go_enter Tryz.func108, Tryz.ntmps108
      go_wp2_with fail
      refine (HC1.out _ (Kept.refl _)).mono ?_
      rintro e w3 ⟨rfl, hk3⟩
      have HK3 := Lib.hid hk3
      clear hk3
      go_wp2
      go_ret
      exact ⟨by rw [HQV.out]; rfl, HK3.out⟩
    · have h12' : ¬ (12 : Int) < (m : Int) := by omega
      have HQ3 : Hid (Q = if ss.any (fun s => decide ((pn : Int) ≤ gtK s)) = true then 11 else if badR ps = true then 3 else if k < 0 ∨ 12 < k then 3 else 0) := Lib.hid (by have h := HQ2.out; rw [if_neg h12] at h; exact h)
      go_enter Tryz.func108, Tryz.ntmps108
      go_wp2_with fail
      refine (HC1.out _ (Kept.refl _)).mono ?_
      rintro e w4 ⟨rfl, hk4⟩
      have HK4 := Lib.hid hk4
      clear hk4
      go_wp2_with fail
      go_loopg [23] m (fun kx s30 wr => ∃ j : Nat, j ≤ m ∧ s30 = .int .i64 j ∧ m - j ≤ kx ∧ Hid (∀ s ∈ ss.take j, gtK s < (pn : Int)) ∧ Hid (Kept w4 wr))
      case atStart => exact ⟨0, Nat.zero_le _, rfl, by omega, Lib.hid (by simp), Lib.hid (Kept.refl _)⟩
      case round =>
        obtain ⟨j, hj, rfl, hjx, HG, HKr⟩ := hrel
        have HKw := Lib.hid (HK4.out.trans HKr.out)
        by_cases hlt : j < m
        · have hjl : j < ss.length := by have := HMS.out; omega
          obtain ⟨b, o, rfl, hce⟩ := HFS.out.get j (by simpa [ofN] using hjl)
          obtain ⟨s, hs⟩ : ∃ s, s = ss[j] := ⟨_, rfl⟩
          have e1 : (ofN ss)[j]'(by simpa [ofN] using hjl) = (s : Int) := by rw [hs]; simp [ofN]
          rw [e1] at hce
          have hcr := HKw.out.cell hce
          have HS := Lib.hid hs
          have HGC := Lib.hid (fun W => HGR.out s W (HMK.out s (by rw [hs]; exact List.getElem_mem _)))
          have hji : (j : Int) < (m : Int) := by omega
          obtain ⟨g, hg⟩ : ∃ g, g = gtK s := ⟨_, rfl⟩
          have HGG := Lib.hid hg
          rw [← hg] at HGC
          clear e1 hce hs hg
          by_cases hge : (pn : Int) ≤ g
          · have HQV : Hid (Q = 11) := Lib.hid (by
              have h := HQ3.out
              rw [if_pos (List.any_eq_true.2 ⟨s, by rw [HS.out]; exact List.getElem_mem _, decide_eq_true (by rw [← HGG.out]; exact hge)⟩)] at h
              exact h)
            go_wp2_with fail
            refine (HGC.out _).mono ?_
            rintro e w5 ⟨rfl, hk5⟩
            have HK5 := Lib.hid (HKw.out.trans hk5)
            clear hk5 hcr
            go_wp2
            go_ret
            exact ⟨by rw [HQV.out]; rfl, HK5.out⟩
          · have hgl : ¬ (pn : Int) ≤ g := hge
            have dgl : decide ((pn : Int) ≤ g) = false := decide_eq_false hge
            go_wp2_with fail
            refine (HGC.out _).mono ?_
            rintro e w5 ⟨rfl, hk5⟩
            have HK5 := Lib.hid (HKr.out.trans hk5)
            clear hk5 hcr
            go_wp2_with fail
            go_roundg (m - (j + 1))
            case measure => omega
            case rel => exact ⟨j + 1, by omega, by go_num, Nat.le_refl _, Lib.hid (fun y hy => by
              rw [List.take_succ_eq_append_getElem hjl] at hy
              rcases List.mem_append.1 hy with hy | hy
              · exact HG.out y hy
              · simp at hy; rw [hy, ← HS.out, ← HGG.out]; omega), HK5⟩
        · have hji : ¬ (j : Int) < (m : Int) := by omega
          have HGA : Hid (∀ s ∈ ss, gtK s < (pn : Int)) := Lib.hid (by have h := HG.out; rwa [List.take_of_length_le (by have := HMS.out; omega)] at h)
          have HQA : Hid (Q = if badR ps = true then 3 else if k < 0 ∨ 12 < k then 3 else 0) := Lib.hid (by
            have h := HQ3.out
            rw [if_neg (by
              intro h2
              obtain ⟨s, hs, h3⟩ := List.any_eq_true.1 h2
              have := HGA.out s hs
              have := of_decide_eq_true h3
              omega)] at h
            exact h)
          obtain ⟨w6, rfl⟩ : ∃ w6 : World, w6 = wr := ⟨_, rfl⟩
          clear HG HGA
          go_wp2_with fail
          go_loopg [36] pn (fun kx s30 wr => ∃ j : Nat, j ≤ pn ∧ s30 = .int .i64 j ∧ pn - j ≤ kx ∧ Hid (∀ r ∈ ps.take j, probR r = true) ∧ Hid (Kept w6 wr))
          case atStart => exact ⟨0, Nat.zero_le _, rfl, by omega, Lib.hid (by simp), Lib.hid (Kept.refl _)⟩
          case round =>
            obtain ⟨t, ht, rfl, htx, HB, HKq⟩ := hrel
            have HKv := Lib.hid (HKw.out.trans HKq.out)
            by_cases hlt2 : t < pn
            · have htl : t < ps.length := by have := HPN.out; omega
              obtain ⟨b, o, u1, u2, rfl, hrg, hw1, hw2⟩ := HV.out.get t htl
              have hrg2 := range_same hrg HKv.out
              obtain ⟨x, hxx⟩ : ∃ x, x = ps.getD t default := ⟨_, rfl⟩
              rw [← hxx] at hrg2 hw1 hw2
              have HXX := Lib.hid hxx
              obtain ⟨a1, c1, rfl⟩ := hw1.shape
              obtain ⟨a2, c2, rfl⟩ := hw2.shape
              have HC : Hid (∀ W, Kept w W → Calls Tryz.prog 46 #[.agg #[.bool x.neg, .slice a1 x.num.length c1, .slice a2 x.den.length c2]] W fun e W' => e = .returned (.bool (probR x)) ∧ Kept W W') := Lib.hid fun W hk => by
                have h := HPR.out t htl W b o _ _ rfl hk (by rw [← hxx]; exact hw1.kept hk) (by rw [← hxx]; exact hw2.kept hk)
                rw [← hxx] at h
                exact h
              generalize x.num.length = n1 at *
              generalize x.den.length = n2 at *
              have HRG : Hid (wr.rangeAt b (o + t * 3) [.bool x.neg, .slice a1 n1 c1, .slice a2 n2 c2]) := Lib.hid hrg2
              have hti : (t : Int) < (pn : Int) := by omega
              clear hrg hrg2 hxx hw1 hw2
              cases hq : probR x with
              | false =>
                rw [hq] at HC
                have HQV : Hid (Q = 3) := Lib.hid (by
                  have hb : badR ps = true := List.any_eq_true.2 ⟨x, by rw [HXX.out, List.getD_eq_getElem?_getD, List.getElem?_eq_getElem htl]; exact List.getElem_mem _, by rw [hq]; rfl⟩
                  have h := HQA.out
                  rw [if_pos hb] at h
                  exact h)
                clear hq
                go_wp2_with (first | (with_reducible refine wpList_load_mid rfl 39 _ rfl b (o + t * 3) rfl _ _ HRG.out Tryz.underlying39 rfl (by kernel_rfl) ?_) | (go_at_call 46; refine (HC.out _ (HKv.out.alloc _)).mono ?_; rintro e w' ⟨rfl, hK2⟩; have HK8 := Lib.hid ((HKv.out.alloc _).trans hK2); clear hK2))
                go_ret
                exact ⟨by rw [HQV.out]; rfl, HK8.out⟩
              | true =>
                rw [hq] at HC
                have HQ9 := Lib.hid hq
                clear hq
                go_wp2_with (first | (with_reducible refine wpList_load_mid rfl 39 _ rfl b (o + t * 3) rfl _ _ HRG.out Tryz.underlying39 rfl (by kernel_rfl) ?_) | (go_at_call 46; refine (HC.out _ (HKv.out.alloc _)).mono ?_; rintro e w' ⟨rfl, hK2⟩; have HK8 := Lib.hid ((HKq.out.alloc _).trans hK2); clear hK2))
                go_roundg (pn - (t + 1))
                case measure => omega
                case rel =>
                  refine ⟨t + 1, by omega, by go_num, Nat.le_refl _, Lib.hid ?_, HK8⟩
                  intro y hy
                  rw [List.take_succ_eq_append_getElem htl] at hy
                  rcases List.mem_append.1 hy with hy | hy
                  · exact HB.out y hy
                  · simp at hy; rw [hy]; have e : ps.getD t default = ps[t] := by simp [List.getD_eq_getElem?_getD, htl]
                    rw [← e, ← HXX.out]; exact HQ9.out
            · have hti : ¬ (t : Int) < (pn : Int) := by omega
              have HQB : Hid (Q = if k < 0 ∨ 12 < k then 3 else 0) := Lib.hid (by
                have hh := HB.out
                rw [List.take_of_length_le (by have := HPN.out; omega)] at hh
                have hb : badR ps = false := by unfold badR; rw [List.any_eq_false]; intro y hy; simp [hh y hy]
                have h := HQA.out
                rw [if_neg (by rw [hb]; simp)] at h
                exact h)
              by_cases hk0 : k < 0
              · have HQV : Hid (Q = 3) := Lib.hid (by have h := HQB.out; rw [if_pos (.inl hk0)] at h; exact h)
                go_wp2
                go_ret
                exact ⟨by rw [HQV.out]; rfl, HKv.out⟩
              · by_cases hk1 : 12 < k
                · have HQV : Hid (Q = 3) := Lib.hid (by have h := HQB.out; rw [if_pos (.inr hk1)] at h; exact h)
                  go_wp2
                  go_ret
                  exact ⟨by rw [HQV.out]; rfl, HKv.out⟩
                · have HQV : Hid (Q = 0) := Lib.hid (by have h := HQB.out; rw [if_neg (by omega)] at h; exact h)
                  go_wp2
                  go_ret
                  exact ⟨by rw [HQV.out]; rfl, HKv.out⟩
  · have hqe : errV q1 = .iface 50 (.int .i64 q1) := errV_pos h1
    rw [hqe] at HC1
    have HQE := Lib.hid hqe
    have HQV : Hid (Q = q1) := Lib.hid (by have h := HQ.out; rw [if_pos h1] at h; exact h)
    clear hqe h1
    go_enter Tryz.func108, Tryz.ntmps108
    go_wp2_with fail
    refine (HC1.out _ (Kept.refl _)).mono ?_
    rintro e w5 ⟨rfl, hk5⟩
    have HK5 := Lib.hid hk5
    clear hk5
    go_wp2
    go_ret
    exact ⟨by rw [HQV.out, HQE.out]; rfl, HK5.out⟩
set_option maxRecDepth 100000 in
set_option maxHeartbeats 8000000 in
theorem refincheck_any (xv v : Value) (xs : List Int) (ps : List Rw) (k : Int) (w : World) (hx : IntsAt w xv xs) (hv : RatsAt w v ps) (h3 : ∀ r ∈ ps, r.Short 3) :
    Calls Tryz.prog 105 #[xv, v, .int .i64 k] w fun e w' => e = .returned (.int .i64 (incE xs ps k : Nat)) ∧ Kept w w' := by
  have HC1 : Hid (∀ W, Kept w W → Calls Tryz.prog 85 #[xv] W fun e w' => e = .returned (.int .i64 (chkI xs : Nat)) ∧ Kept W w') := Lib.hid fun W h => rcheck06_any xv xs W (hx.kept h)
  have HBA := Lib.hid (fun W (h : Kept w W) => refbad_any v ps W (hv.kept h) (fun r hr => ⟨Nat.le_trans (h3 r hr).1 (by omega), Nat.le_trans (h3 r hr).2 (by omega)⟩))
  obtain ⟨Q, hQ⟩ : ∃ Q, Q = incE xs ps k := ⟨_, rfl⟩
  rw [← hQ]
  unfold incE at hQ
  obtain ⟨xa, xc, hxs, hxc, hxl, hxg⟩ := id hx
  obtain ⟨m, hm⟩ : ∃ m, m = xs.length := ⟨_, rfl⟩
  rw [← hm] at hxs hQ
  subst hxs
  obtain ⟨pa, pc, rfl⟩ := hv.shape
  obtain ⟨q1, hq1⟩ : ∃ q1, q1 = chkI xs := ⟨_, rfl⟩
  rw [← hq1] at HC1 hQ
  have HF := Lib.hid hx
  have HM := Lib.hid hm
  have HQ := Lib.hid hQ
  have HQ1 := Lib.hid hq1
  have hml : m ≤ 140737488355328 := by omega
  have hpl := hv.len
  clear hx hv hm hQ hq1 h3 hxc hxl hxg
  by_cases h1 : q1 = 0
  · subst h1
    obtain ⟨hlen, hok⟩ := chk_ok (HQ1.out.symm)
    obtain ⟨hys, hmk⟩ := nats_of hok
    obtain ⟨ss, hss⟩ : ∃ ss, ss = natsI xs := ⟨_, rfl⟩
    have hq2 := HQ.out
    rw [if_neg (by simp), ← hss] at hq2
    rw [← hss] at hys hmk
    have hms : m = ss.length := by rw [HM.out, hss]; unfold natsI; rw [List.length_map]
    have HFS : Hid (IntsAt w (.slice xa m xc) (ofN ss)) := Lib.hid (by rw [← hys]; exact HF.out)
    have HMK : Hid (∀ s ∈ ss, s < 16777216) := Lib.hid fun s hs => by have := hmk s hs; unfold Mk at this; omega
    have HMS := Lib.hid hms
    have HQ2 := Lib.hid hq2
    have HGR := Lib.hid (fun (s : Nat) (W : World) (hs : s < 16777216) => great05_any s hs W)
    obtain ⟨pn, hpn⟩ : ∃ pn, pn = ps.length := ⟨_, rfl⟩
    rw [← hpn] at HQ2 hpl HBA ⊢
    clear hq2 hys hmk hss hms hlen hok hpn
    by_cases h12 : 12 < m
    · have h12' : (12 : Int) < (m : Int) := by omega
      have HQV : Hid (Q = 4) := Lib.hid (by have h := HQ2.out; rw [if_pos h12] at h; exact h)
      go_enter Tryz.func105, Tryz.ntmps105
      go_wp2_with fail
      refine (HC1.out _ (Kept.refl _)).mono ?_
      rintro e w3 ⟨rfl, hk3⟩
      have HK3 := Lib.hid hk3
      clear hk3
      go_wp2
      go_ret
      exact ⟨by rw [HQV.out]; rfl, HK3.out⟩
    · have h12' : ¬ (12 : Int) < (m : Int) := by omega
      have HQ3 : Hid (Q = if ss.any (fun s => decide ((pn : Int) ≤ gtK s)) = true then 11 else if badR ps = true then 3 else if k < 0 ∨ 12 < k then 3 else 0) := Lib.hid (by have h := HQ2.out; rw [if_neg h12] at h; exact h)
      go_enter Tryz.func105, Tryz.ntmps105
      go_wp2_with fail
      refine (HC1.out _ (Kept.refl _)).mono ?_
      rintro e w4 ⟨rfl, hk4⟩
      have HK4 := Lib.hid hk4
      clear hk4
      go_wp2_with fail
      go_loopg [20] m (fun kx s30 wr => ∃ j : Nat, j ≤ m ∧ s30 = .int .i64 j ∧ m - j ≤ kx ∧ Hid (∀ s ∈ ss.take j, gtK s < (pn : Int)) ∧ Hid (Kept w4 wr))
      case atStart => exact ⟨0, Nat.zero_le _, rfl, by omega, Lib.hid (by simp), Lib.hid (Kept.refl _)⟩
      case round =>
        obtain ⟨j, hj, rfl, hjx, HG, HKr⟩ := hrel
        have HKw := Lib.hid (HK4.out.trans HKr.out)
        by_cases hlt : j < m
        · have hjl : j < ss.length := by have := HMS.out; omega
          obtain ⟨b, o, rfl, hce⟩ := HFS.out.get j (by simpa [ofN] using hjl)
          obtain ⟨s, hs⟩ : ∃ s, s = ss[j] := ⟨_, rfl⟩
          have e1 : (ofN ss)[j]'(by simpa [ofN] using hjl) = (s : Int) := by rw [hs]; simp [ofN]
          rw [e1] at hce
          have hcr := HKw.out.cell hce
          have HS := Lib.hid hs
          have HGC := Lib.hid (fun W => HGR.out s W (HMK.out s (by rw [hs]; exact List.getElem_mem _)))
          have hji : (j : Int) < (m : Int) := by omega
          obtain ⟨g, hg⟩ : ∃ g, g = gtK s := ⟨_, rfl⟩
          have HGG := Lib.hid hg
          rw [← hg] at HGC
          clear e1 hce hs hg
          by_cases hge : (pn : Int) ≤ g
          · have HQV : Hid (Q = 11) := Lib.hid (by
              have h := HQ3.out
              rw [if_pos (List.any_eq_true.2 ⟨s, by rw [HS.out]; exact List.getElem_mem _, decide_eq_true (by rw [← HGG.out]; exact hge)⟩)] at h
              exact h)
            have dge : decide ((pn : Int) ≤ g) = true := decide_eq_true hge
            go_wp2_with fail
            refine (HGC.out _).mono ?_
            rintro e w5 ⟨rfl, hk5⟩
            have HK5 := Lib.hid (HKw.out.trans hk5)
            clear hk5 hcr
            go_wp2
            go_ret
            exact ⟨by rw [HQV.out]; rfl, HK5.out⟩
          · have hgl : ¬ (pn : Int) ≤ g := hge
            have dgl : decide ((pn : Int) ≤ g) = false := decide_eq_false hge
            go_wp2_with fail
            refine (HGC.out _).mono ?_
            rintro e w5 ⟨rfl, hk5⟩
            have HK5 := Lib.hid (HKr.out.trans hk5)
            clear hk5 hcr
            go_wp2_with fail
            go_roundg (m - (j + 1))
            case measure => omega
            case rel => exact ⟨j + 1, by omega, by go_num, Nat.le_refl _, Lib.hid (fun y hy => by
              rw [List.take_succ_eq_append_getElem hjl] at hy
              rcases List.mem_append.1 hy with hy | hy
              · exact HG.out y hy
              · simp at hy; rw [hy, ← HS.out, ← HGG.out]; omega), HK5⟩
        · have hji : ¬ (j : Int) < (m : Int) := by omega
          have HGA : Hid (∀ s ∈ ss, gtK s < (pn : Int)) := Lib.hid (by have h := HG.out; rwa [List.take_of_length_le (by have := HMS.out; omega)] at h)
          have HQA : Hid (Q = if badR ps = true then 3 else if k < 0 ∨ 12 < k then 3 else 0) := Lib.hid (by
            have h := HQ3.out
            rw [if_neg (by
              intro h2
              obtain ⟨s, hs, h3⟩ := List.any_eq_true.1 h2
              have := HGA.out s hs
              have := of_decide_eq_true h3
              omega)] at h
            exact h)
          cases hbad : badR ps with
          | true =>
            rw [hbad] at HBA HQA
            have HQV : Hid (Q = 3) := Lib.hid (by have h := HQA.out; rw [if_pos rfl] at h; exact h)
            clear hbad
            go_wp2_with fail
            refine (HBA.out _ HKw.out).mono ?_
            rintro e w5 ⟨rfl, hk5⟩
            have HK5 := Lib.hid (HKw.out.trans hk5)
            clear hk5
            go_wp2
            go_ret
            exact ⟨by rw [HQV.out]; rfl, HK5.out⟩
          | false =>
            rw [hbad] at HBA HQA
            have HQB : Hid (Q = if k < 0 ∨ 12 < k then 3 else 0) := Lib.hid (by have h := HQA.out; rw [if_neg (by simp)] at h; exact h)
            clear hbad
            by_cases hk0 : k < 0
            · have HQV : Hid (Q = 3) := Lib.hid (by have h := HQB.out; rw [if_pos (.inl hk0)] at h; exact h)
              go_wp2_with fail
              refine (HBA.out _ HKw.out).mono ?_
              rintro e w5 ⟨rfl, hk5⟩
              have HK5 := Lib.hid (HKw.out.trans hk5)
              clear hk5
              go_wp2
              go_ret
              exact ⟨by rw [HQV.out]; rfl, HK5.out⟩
            · by_cases hk1 : 12 < k
              · have HQV : Hid (Q = 3) := Lib.hid (by have h := HQB.out; rw [if_pos (.inr hk1)] at h; exact h)
                have dk : decide (k > 12) = true := decide_eq_true hk1
                have dk2 : decide (12 < k) = true := decide_eq_true hk1
                go_wp2_with fail
                refine (HBA.out _ HKw.out).mono ?_
                rintro e w5 ⟨rfl, hk5⟩
                have HK5 := Lib.hid (HKw.out.trans hk5)
                clear hk5
                go_wp2
                go_ret
                exact ⟨by rw [HQV.out]; rfl, HK5.out⟩
              · have HQV : Hid (Q = 0) := Lib.hid (by have h := HQB.out; rw [if_neg (by omega)] at h; exact h)
                have dk : decide (k > 12) = false := decide_eq_false hk1
                have dk2 : decide (12 < k) = false := decide_eq_false hk1
                go_wp2_with fail
                refine (HBA.out _ HKw.out).mono ?_
                rintro e w5 ⟨rfl, hk5⟩
                have HK5 := Lib.hid (HKw.out.trans hk5)
                clear hk5
                go_wp2
                go_ret
                exact ⟨by rw [HQV.out]; rfl, HK5.out⟩
  · have hqz : ¬ (q1 : Int) = 0 := by omega
    have hqn : ((q1 : Int) != 0) = true := by simp; omega
    have HQV : Hid (Q = q1) := Lib.hid (by have h := HQ.out; rw [if_pos h1] at h; exact h)
    clear h1
    go_enter Tryz.func105, Tryz.ntmps105
    go_wp2_with fail
    refine (HC1.out _ (Kept.refl _)).mono ?_
    rintro e w5 ⟨rfl, hk5⟩
    have HK5 := Lib.hid hk5
    clear hk5
    go_wp2
    go_ret
    exact ⟨by rw [HQV.out]; rfl, HK5.out⟩
end Go.Proofs.YtbkchheikkbebaaGreatDoor

/-
  Walks: inclusion.sums, inclusion.partials.
-/
namespace Go.Proofs.YtbkchheikkbebaaGreatDoor
open Go.RowKit

/-- The thirteen sums over the choices below m. -/
def sumL (ps : List Rw) (l : List Nat) (m : Nat) : List Rw := (List.range 13).map fun k => canR (sumR ps l k m)
theorem sumL_len (ps : List Rw) (l : List Nat) (m : Nat) : (sumL ps l m).length = 13 := by unfold sumL; simp
theorem sumL_get {ps : List Rw} {l : List Nat} {m k : Nat} (h : k < 13) : (sumL ps l m).getD k default = canR (sumR ps l k m) := by
  unfold sumL; simp [List.getD_eq_getElem?_getD, h]
theorem sumL_zero (ps : List Rw) (l : List Nat) : sumL ps l 0 = List.replicate 13 ⟨false, [], []⟩ := by
  unfold sumL
  apply List.ext_getElem
  · simp
  · intro i h1 h2
    simp only [List.getElem_map, List.getElem_range, List.getElem_replicate]
    rw [sumR_zero, canR_zero]
theorem sumL_step (ps : List Rw) (l : List Nat) (m : Nat) : sumL ps l (m + 1) = (sumL ps l m).set (pc m) (canR (sumR ps l (pc m) m + prodQ (uniK l m l.length) ps ps.length)) := by
  unfold sumL
  apply List.ext_getElem
  · simp
  · intro i h1 h2
    rw [List.getElem_set]
    simp only [List.getElem_map, List.getElem_range]
    by_cases h : pc m = i
    · subst h
      rw [if_pos rfl, sumR_hit rfl]
    · rw [if_neg h, sumR_miss h]
def incL (ps : List Rw) (l : List Nat) : List Rw := (List.range 13).map fun k => canR (incR ps l k)
theorem incL_len (ps : List Rw) (l : List Nat) : (incL ps l).length = 13 := by unfold incL; simp
theorem incL_get {ps : List Rw} {l : List Nat} {k : Nat} (h : k < 13) : (incL ps l).getD k default = canR (incR ps l k) := by
  unfold incL; simp [List.getD_eq_getElem?_getD, h]
theorem sumL_all (ps : List Rw) (l : List Nat) : sumL ps l (2 ^ l.length) = incL ps l := by
  unfold sumL incL
  exact List.map_congr_left fun k _ => by rw [sumR_all]
set_option maxRecDepth 100000 in
set_option maxHeartbeats 16000000 in
theorem sums_any (xv v : Value) (ss : List Nat) (ps : List Rw) (w : World) (hx : IntsAt w xv (ofN ss)) (hv : RatsAt w v ps) (h3 : ∀ r ∈ ps, r.Short 3) (h30 : ps.length ≤ 30) (h6 : ss.length ≤ 6) (hg : ∀ s ∈ ss, s < 16777216 ∧ gtK s < (ps.length : Int)) :
    Calls Tryz.prog 123 #[xv, v] w fun e w' => (∃ v', e = .returned v' ∧ RatsAt w' v' (incL ps ss)) ∧ Kept w w' := by
  have HCH : Hid (∀ (u : Nat) W, u < 16777216 → Kept w W → Calls Tryz.prog 193 #[.int .i64 u, v] W fun e w' => (∃ v', e = .returned v' ∧ RatAt w' v' (canR (prodQ u ps ps.length))) ∧ Kept W w') := Lib.hid fun u W hu hk => chance_any u v ps W hu (hv.kept hk) h3 h30
  have HSS := Lib.hid (fun k m => sumR_short (l := ss) (k := k) h30 h3 hv.ok m)
  have HPS := Lib.hid (fun u => prod_short (s := u) h3 hv.ok ps.length (Nat.le_refl _))
  have HUN := Lib.hid (fun ch m => uni_ok (n := ps.length) (by omega) hg ch m)
  have HON : Hid (∀ (c : Nat) W, c < 16777216 → Calls Tryz.prog 192 #[.int .u64 (c : Int)] W fun e w' => e = .returned (.int .i64 (pc c : Nat)) ∧ W = w') := Lib.hid fun c W hc => by
    have h := ones_any (c : Int) W
    rw [pcS_pc c hc] at h
    exact h
  obtain ⟨xa, xc, hxs, _⟩ := id hx
  obtain ⟨m, hm⟩ : ∃ m, m = ss.length := ⟨_, rfl⟩
  rw [show (ofN ss).length = m by rw [hm]; simp [ofN]] at hxs
  subst hxs
  obtain ⟨pa, pc1, rfl⟩ := hv.shape
  have HF := Lib.hid hx
  have HG := Lib.hid hg
  have HM := Lib.hid hm
  obtain ⟨M, hM⟩ : ∃ M, M = 2 ^ m := ⟨_, rfl⟩
  have hm6 : m ≤ 6 := by omega
  have hsh : wrap64 ((2 : Int) ^ m) = (M : Int) := by rw [hM]; exact shlW m (by omega)
  have hM64 : M ≤ 64 := by rw [hM]; exact Nat.pow_le_pow_right (by decide) hm6
  have HMM : Hid (M = 2 ^ m) := Lib.hid hM
  obtain ⟨pn, hpn⟩ : ∃ pn, pn = ps.length := ⟨_, rfl⟩
  rw [← hpn] at HCH HPS HUN h30 ⊢
  have HPN := Lib.hid hpn
  clear hx hv h3 h6 hg hm hM hpn
  go_enter Tryz.func123, Tryz.ntmps123
  go_wp2_with (refine make_rat rfl _ _ rfl 13 rfl rfl (by omega) ?_; intro w1 hA1 hk1; have HA1 := Lib.hid hA1; have HK1 := Lib.hid hk1; clear hA1 hk1)
  rw [hsh]
  go_loopg [15] M (fun kx s15 wr => ∃ ch : Nat, ch ≤ M ∧ s15 = .int .i64 ch ∧ M - ch ≤ kx ∧ Hid (ArrAt wr w.heap.size 39 (sumL ps ss ch)) ∧ Hid (Kept w wr))
  case atStart => exact ⟨0, Nat.zero_le _, rfl, by omega, Lib.hid (by rw [sumL_zero]; exact HA1.out), HK1⟩
  case round =>
    obtain ⟨ch, hch, rfl, hchx, HA, HK⟩ := hrel
    by_cases hlt : ch < M
    · have hci : (ch : Int) < (M : Int) := by omega
      have hcw : IntKind.u64.wrap (ch : Int) = (ch : Int) := by rw [IntKind.wrap_u64]; omega
      have hc24 : ch < 16777216 := by omega
      have HON1 := Lib.hid (fun W => HON.out ch W hc24)
      have hpm : pc ch ≤ m := pc_most m ch (by rw [← HMM.out]; exact hlt)
      have HBV := Lib.hid (fun i => bit_val ch i hc24)
      obtain ⟨wo, rfl⟩ : ∃ wo : World, wo = wr := ⟨_, rfl⟩
      go_wp2_with fail
      go_loopg [7, 20] m (fun kx s7 s20 wq => ∃ i : Nat, i ≤ m ∧ s7 = .int .i64 (uniK ss ch i : Nat) ∧ s20 = .int .i64 i ∧ m - i ≤ kx ∧ wo = wq)
      case atStart => exact ⟨0, Nat.zero_le _, rfl, rfl, by omega, rfl⟩
      case round =>
        obtain ⟨i, hi, rfl, rfl, hix, rfl⟩ := hrel
        by_cases hil : i < m
        · have hin : i < ss.length := by have := HM.out; omega
          have hii : (i : Int) < (m : Int) := by omega
          obtain ⟨b, o, rfl, hce⟩ := HF.out.get i (by simpa [ofN] using hin)
          obtain ⟨s, hs⟩ : ∃ s, s = ss[i] := ⟨_, rfl⟩
          have e1 : (ofN ss)[i]'(by simpa [ofN] using hin) = (s : Int) := by rw [hs]; simp [ofN]
          rw [e1] at hce
          have hcr := HK.out.cell hce
          have hs24 : s < 16777216 := by rw [hs]; exact (HG.out _ (List.getElem_mem hin)).1
          have hsd : ss.getD i 0 = s := by rw [hs]; simp [List.getD_eq_getElem?_getD, hin]
          obtain ⟨u, hu⟩ : ∃ u, u = uniK ss ch i := ⟨_, rfl⟩
          have hu24 : u < 16777216 := by rw [hu]; exact (HUN.out ch i).1
          rw [← hu]
          have hor := or_i64 u s (by omega) (by omega)
          obtain ⟨z, hz⟩ : ∃ z, z = u ||| s := ⟨_, rfl⟩
          rw [← hz] at hor
          have HU := Lib.hid hu
          have HZ := Lib.hid hz
          have HSD := Lib.hid hsd
          have hbv := HBV.out i
          have hi0 : (0 : Int) ≤ (i : Int) := by omega
          have hi64 : (i : Int) < 64 := by omega
          cases hb : ch.testBit i with
          | true =>
            rw [hb] at hbv
            have HB := Lib.hid hb
            clear e1 hce hs hu hz hsd hb
            go_wp2
            go_roundg (m - (i + 1))
            case measure => omega
            case rel => exact ⟨i + 1, by omega, by rw [uniK, if_pos HB.out, ← HU.out, HSD.out, ← HZ.out], by go_num, Nat.le_refl _, rfl⟩
          | false =>
            rw [hb] at hbv
            have HB := Lib.hid hb
            clear e1 hce hs hu hz hsd hb
            go_wp2
            go_roundg (m - (i + 1))
            case measure => omega
            case rel => exact ⟨i + 1, by omega, by rw [uniK, if_neg (by rw [HB.out]; simp), ← HU.out], by go_num, Nat.le_refl _, rfl⟩
        · have hie : i = m := by omega
          have hii : ¬ (i : Int) < (m : Int) := by omega
          obtain ⟨u, hu⟩ : ∃ u, u = uniK ss ch i := ⟨_, rfl⟩
          have hum : u = uniK ss ch ss.length := by rw [hu, hie, HM.out]
          have hu24 : u < 16777216 := by rw [hu]; exact (HUN.out ch i).1
          obtain ⟨k, hk⟩ : ∃ k, k = pc ch := ⟨_, rfl⟩
          rw [← hu]
          rw [← hk] at HON1 hpm
          have hk13 : k < 13 := by omega
          have hki : (k : Int) < 13 := by omega
          have hk0 : (0 : Int) ≤ (k : Int) := by omega
          have HCH1 := Lib.hid (fun W (h : Kept w W) => HCH.out u W hu24 h)
          have hsk := HSS.out k ch
          have hps := HPS.out u
          obtain ⟨R, hR⟩ : ∃ R, R = canR (sumR ps ss k ch + prodQ u ps pn) := ⟨_, rfl⟩
          have HAD : Hid (∀ W u1 u2, RatAt W u1 (canR (sumR ps ss k ch)) → RatAt W u2 (canR (prodQ u ps pn)) → Calls Tryz.prog 47 #[u1, u2] W fun e w' => (∃ v', e = .returned v' ∧ RatAt w' v' R) ∧ Kept W w') := Lib.hid fun W u1 u2 k1 k2 => by
            have h := radd_any u1 u2 _ _ W k1 k2 ⟨Nat.le_trans hsk.1 (by omega), Nat.le_trans hsk.2 (by omega)⟩ ⟨Nat.le_trans hps.1 (by omega), Nat.le_trans hps.2 (by omega)⟩
            rw [ratOf_can, ratOf_can, ← hR] at h
            exact h
          have HST : Hid ((sumL ps ss ch).set k R = sumL ps ss (ch + 1)) := Lib.hid (by rw [sumL_step, ← hk, hR, hum, HPN.out])
          have HLN : Hid ((sumL ps ss ch).length = 13) := Lib.hid (sumL_len _ _ _)
          have hat := HA.out.at k (by rw [HLN.out]; exact hk13)
          rw [sumL_get hk13] at hat
          obtain ⟨a5, c5, a6, c6, ⟨x0, x1, x2⟩, hfr, hgl, hy1, hy2⟩ := hat
          have HXA : Hid (∀ W, Kept wo W → RatAt W (.agg #[.bool (canR (sumR ps ss k ch)).neg, .slice a5 (canR (sumR ps ss k ch)).num.length c5, .slice a6 (canR (sumR ps ss k ch)).den.length c6]) (canR (sumR ps ss k ch))) := Lib.hid fun W h => ⟨_, _, rfl, hy1.kept h, hy2.kept h⟩
          have f0 := hfr (k * 3)
          have f1 := hfr (k * 3 + 1)
          have f2 := hfr (k * 3 + 2)
          generalize (canR (sumR ps ss k ch)).neg = z3 at *
          generalize (canR (sumR ps ss k ch)).num.length = z4 at *
          generalize (canR (sumR ps ss k ch)).den.length = z5 at *
          clear hu hum hk hsk hps hie hfr hy1 hy2 hR
          go_wp2_with (go_at_call 192; refine (HON1.out _).mono ?_; rintro e w5 ⟨rfl, rfl⟩)
          go_region_with (first
            | (go_at_call 193; (with_reducible refine (HCH1.out _ HK.out.drew).mono ?_); rintro e w6 ⟨⟨v6, rfl, hv6⟩, hk6⟩; have hkd := (Kept.refl wo).drew.trans hk6; have i0 := hkd.cell x0; have i1 := hkd.cell x1; have i2 := hkd.cell x2; have HA6 := Lib.hid (HA.out.kept hkd); have HXA6 := Lib.hid (HXA.out _ hkd); have HK6 := Lib.hid (HK.out.trans hkd); have HV6 := Lib.hid hv6; clear hk6 hkd hv6)
            | (go_at_call 47; (with_reducible refine (HAD.out _ _ _ HXA6.out HV6.out).mono ?_); rintro e w7 ⟨⟨v7, rfl, hv7⟩, hk7⟩; have HA7 := Lib.hid (HA6.out.kept hk7); have HK7 := Lib.hid (HK6.out.trans hk7); obtain ⟨u7, u8, rfl, k7, k8⟩ := hv7; obtain ⟨a7, c7, rfl⟩ := k7.shape; obtain ⟨a8, c8, rfl⟩ := k8.shape; have K7 := Lib.hid k7; have K8 := Lib.hid k8; obtain ⟨_, _, _, _, ⟨t0, t1, t2⟩, hfr7, hgl7, _, _⟩ := HA7.out.at k (by rw [HLN.out]; exact hk13); have j0 := hfr7 (k * 3); have j1 := hfr7 (k * 3 + 1); have j2 := hfr7 (k * 3 + 2); clear k7 k8 hk7 hfr7))
          all_goals
            have hs9 := HA7.out.store k (by rw [HLN.out]; exact hk13) K7.out K8.out
            rw [HST.out] at hs9
            have HS := Lib.hid hs9
            clear hs9
            generalize R.num.length = n7 at *
            generalize R.den.length = n8 at *
            go_wp2_with fail
            go_roundg (M - (ch + 1))
            case measure => omega
            case rel => exact ⟨ch + 1, by omega, by go_num, Nat.le_refl _, HS, Lib.hid (((HK7.out.store (Nat.le_refl _) _ _).store (Nat.le_refl _) _ _).store (Nat.le_refl _) _ _)⟩
    · have hce : ch = M := by omega
      have hci : ¬ (ch : Int) < (M : Int) := by omega
      have HR : Hid (RatsAt wr (.slice (some ⟨w.heap.size, 0, none⟩) 13 13) (incL ps ss)) := Lib.hid (by
        have h := HA.out
        rw [hce, HMM.out, HM.out, sumL_all] at h
        exact h.rats (incL_len _ _).symm (Nat.le_refl _) (by omega))
      clear hce
      go_wp2
      go_ret
      exact ⟨⟨_, rfl, HR.out⟩, HK.out⟩
end Go.Proofs.YtbkchheikkbebaaGreatDoor

/-
  Walks: inclusion.partials, Sum, Partial, Exact. Printed by gen_EA6.py.
-/
namespace Go.Proofs.YtbkchheikkbebaaGreatDoor
open Go.RowKit

/-- The first k alternating sums; all. -/
def altP (ps : List Rw) (l : List Nat) (k : Nat) : List Rw := (List.range 13).map fun j => if j < k then canR (altR ps l j) else ⟨false, [], []⟩
def altL (ps : List Rw) (l : List Nat) : List Rw := (List.range 13).map fun j => canR (altR ps l j)
theorem altP_len (ps : List Rw) (l : List Nat) (k : Nat) : (altP ps l k).length = 13 := by unfold altP; simp
theorem altL_len (ps : List Rw) (l : List Nat) : (altL ps l).length = 13 := by unfold altL; simp
theorem altP_get {ps : List Rw} {l : List Nat} {k j : Nat} (hj : j < 13) (h : j < k) : (altP ps l k).getD j default = canR (altR ps l j) := by
  unfold altP; simp [List.getD_eq_getElem?_getD, hj, h]
theorem altL_get {ps : List Rw} {l : List Nat} {j : Nat} (hj : j < 13) : (altL ps l).getD j default = canR (altR ps l j) := by
  unfold altL; simp [List.getD_eq_getElem?_getD, hj]
theorem altP_one (ps : List Rw) (l : List Nat) : altP ps l 1 = List.replicate 13 ⟨false, [], []⟩ := by
  unfold altP
  apply List.ext_getElem
  · simp
  · intro i h1 h2
    simp only [List.getElem_map, List.getElem_range, List.getElem_replicate]
    split
    · rename_i h
      have : i = 0 := by omega
      subst this
      exact canR_zero
    · rfl
theorem altP_step (ps : List Rw) (l : List Nat) (k : Nat) : (altP ps l k).set k (canR (altR ps l k)) = altP ps l (k + 1) := by
  unfold altP
  apply List.ext_getElem
  · simp
  · intro i h1 h2
    rw [List.getElem_set]
    simp only [List.getElem_map, List.getElem_range]
    by_cases h : k = i
    · rw [if_pos h, if_pos (by omega), h]
    · rw [if_neg h]
      by_cases h3 : i < k
      · rw [if_pos h3, if_pos (by omega)]
      · rw [if_neg h3, if_neg (by omega)]
theorem altP_all (ps : List Rw) (l : List Nat) : altP ps l 13 = altL ps l := by
  unfold altP altL
  exact List.map_congr_left fun j hj => if_pos (by simpa using hj)
set_option maxRecDepth 100000 in
set_option maxHeartbeats 16000000 in
theorem partials_any (xv v : Value) (ss : List Nat) (ps : List Rw) (w : World) (hx : IntsAt w xv (ofN ss)) (hv : RatsAt w v ps) (h3 : ∀ r ∈ ps, r.Short 3) (h30 : ps.length ≤ 30) (h6 : ss.length ≤ 6) (hg : ∀ s ∈ ss, s < 16777216 ∧ gtK s < (ps.length : Int)) :
    Calls Tryz.prog 109 #[xv, v] w fun e w' => (∃ g, e = .returned (.slice (some ⟨g, 0, none⟩) 13 13) ∧ w.heap.size ≤ g ∧ RatsAt w' (.slice (some ⟨g, 0, none⟩) 13 13) (altL ps ss)) ∧ Kept w w' := by
  have HSU : Hid (∀ W, Kept w W → Calls Tryz.prog 123 #[xv, v] W fun e w' => (∃ v', e = .returned v' ∧ RatsAt w' v' (incL ps ss)) ∧ Kept W w') := Lib.hid fun W hk => sums_any xv v ss ps W (hx.kept hk) (hv.kept hk) h3 h30 h6 hg
  have HAS := Lib.hid (fun k => altR_short h30 h3 hv.ok h6 k)
  have HIS := Lib.hid (fun k => incR_short h30 h3 hv.ok h6 k)
  obtain ⟨xa, xc, hxs, _⟩ := id hx
  obtain ⟨m, hm⟩ : ∃ m, m = (ofN ss).length := ⟨_, rfl⟩
  rw [← hm] at hxs
  subst hxs
  obtain ⟨pa, pc1, hps⟩ := hv.shape
  obtain ⟨pn, hpn⟩ : ∃ pn, pn = ps.length := ⟨_, rfl⟩
  rw [← hpn] at hps
  subst hps
  clear hx hv h3 h6 hg h30 hpn hm
  go_enter Tryz.func109, Tryz.ntmps109
  go_wp2_with fail
  refine (HSU.out _ (Kept.refl _)).mono ?_
  rintro e w1 ⟨⟨sv, rfl, hsv⟩, hk1⟩
  have HS1 := Lib.hid hsv
  have HK1 := Lib.hid hk1
  obtain ⟨sa, sc, hsh⟩ := hsv.shape
  rw [incL_len] at hsh
  subst hsh
  clear hsv hk1
  go_wp2_with (refine make_rat rfl _ _ rfl 13 rfl rfl (by omega) ?_; intro w2 hA2 hk2; have HA2 := Lib.hid hA2; have HK2 := Lib.hid hk2; clear hA2 hk2)
  go_loopg [7] 13 (fun kx s7 wr => ∃ k : Nat, 1 ≤ k ∧ k ≤ 13 ∧ s7 = .int .i64 k ∧ 13 - k ≤ kx ∧ Hid (ArrAt wr w1.heap.size 39 (altP ps ss k)) ∧ Hid (Kept w1 wr))
  case atStart => exact ⟨1, Nat.le_refl _, by omega, rfl, by omega, Lib.hid (by rw [altP_one]; exact HA2.out), HK2⟩
  case round =>
    obtain ⟨n, hn1, hn, rfl, hnx, HA, HK⟩ := hrel
    by_cases hlt : n < 13
    · have hni : (n : Int) < 13 := by omega
      have hn0 : (0 : Int) ≤ (n : Int) := by omega
      obtain ⟨j, hj⟩ : ∃ j, j = n - 1 := ⟨_, rfl⟩
      have hj0 : (0 : Int) ≤ (j : Int) := by omega
      have hji : (j : Int) < 13 := by omega
      have hj13 : j < 13 := by omega
      have hjn : j < n := by omega
      have hn1' : n = j + 1 := by omega
      have hw1 : wrap64 ((n : Int) - 1) = (j : Int) := by unfold wrap64; omega
      have hw2 : IntKind.i64.wrap ((n : Int) - 1) = (j : Int) := by rw [IntKind.wrap_i64]; omega
      have hw3 : IntKind.i64.wrap (j : Int) = (j : Int) := by rw [IntKind.wrap_i64]; omega
      have hA5 := HA.out.at j (by rw [altP_len]; exact hj13)
      rw [altP_get hj13 hjn] at hA5
      obtain ⟨a5, c5, a6, c6, ⟨x0, x1, x2⟩, hfr, hgl, hy1, hy2⟩ := hA5
      have HXA : Hid (∀ W, Kept wr W → RatAt W (.agg #[.bool (canR (altR ps ss j)).neg, .slice a5 (canR (altR ps ss j)).num.length c5, .slice a6 (canR (altR ps ss j)).den.length c6]) (canR (altR ps ss j))) := Lib.hid fun W h => ⟨_, _, rfl, hy1.kept h, hy2.kept h⟩
      have f0 := hfr (n * 3)
      have f1 := hfr (n * 3 + 1)
      have f2 := hfr (n * 3 + 2)
      obtain ⟨_, _, _, _, ⟨y0, y1, y2⟩, _, _, _, _⟩ := HA.out.at n (by rw [altP_len]; exact hlt)
      obtain ⟨b, o, u1, u2, rfl, hrg, hs1, hs2⟩ := HS1.out.get n (by rw [incL_len]; exact hlt)
      rw [incL_get hlt] at hrg hs1 hs2
      obtain ⟨a7, c7, rfl⟩ := hs1.shape
      obtain ⟨a8, c8, rfl⟩ := hs2.shape
      have hrg2 := range_same hrg HK.out
      have z0 := hrg2 0 _ rfl
      have z1 := hrg2 1 _ rfl
      have z2 := hrg2 2 _ rfl
      rw [Nat.add_zero] at z0
      have HYA : Hid (∀ W, Kept wr W → RatAt W (.agg #[.bool (canR (incR ps ss n)).neg, .slice a7 (canR (incR ps ss n)).num.length c7, .slice a8 (canR (incR ps ss n)).den.length c8]) (canR (incR ps ss n))) := Lib.hid fun W h => ⟨_, _, rfl, hs1.kept (HK.out.trans h), hs2.kept (HK.out.trans h)⟩
      have has := HAS.out j
      have his := HIS.out n
      obtain ⟨R, hR⟩ : ∃ R, R = canR (altR ps ss n) := ⟨_, rfl⟩
      have HST : Hid ((altP ps ss n).set n R = altP ps ss (n + 1)) := Lib.hid (by rw [hR]; exact altP_step ps ss n)
      have HLN : Hid ((altP ps ss n).length = 13) := Lib.hid (altP_len _ _ _)
      rcases Nat.mod_two_eq_zero_or_one n with hpar | hpar
      · have etm : Int.tmod (n : Int) 2 = 0 := by rw [Int.tmod_eq_emod_of_nonneg (by omega)]; omega
        have HAD : Hid (∀ W u1 u2, RatAt W u1 (canR (altR ps ss j)) → RatAt W u2 (canR (incR ps ss n)) → Calls Tryz.prog 63 #[u1, u2] W fun e w' => (∃ v', e = .returned v' ∧ RatAt w' v' R) ∧ Kept W w') := Lib.hid fun W u1 u2 k1 k2 => by
          have h := rsub_any u1 u2 _ _ W k1 k2 ⟨Nat.le_trans has.1 (by omega), Nat.le_trans has.2 (by omega)⟩ ⟨Nat.le_trans his.1 (by omega), Nat.le_trans his.2 (by omega)⟩
          rw [ratOf_can, ratOf_can, hn1', ← altR_even (by omega), ← hn1', ← hR] at h
          exact h
        generalize (canR (altR ps ss j)).neg = e3 at *
        generalize (canR (altR ps ss j)).num.length = e4 at *
        generalize (canR (altR ps ss j)).den.length = e5 at *
        generalize (canR (incR ps ss n)).neg = e6 at *
        generalize (canR (incR ps ss n)).num.length = e7 at *
        generalize (canR (incR ps ss n)).den.length = e8 at *
        generalize (List.getD (altP ps ss n) n default).neg = e9 at *
        generalize (List.getD (altP ps ss n) n default).num.length = d1 at *
        generalize (List.getD (altP ps ss n) n default).den.length = d2 at *
        clear hfr hy1 hy2 hrg hrg2 hs1 hs2 has his hR hpar hn1' hj
        go_wp2_with fail
        go_region_with (go_at_call 63; (with_reducible refine (HAD.out _ _ _ (HXA.out _ (Kept.refl _).drew) (HYA.out _ (Kept.refl _).drew)).mono ?_); rintro e w7 ⟨⟨v7, rfl, hv7⟩, hk7⟩; have hkd := (Kept.refl wr).drew.trans hk7; have HA7 := Lib.hid (HA.out.kept hkd); have HK7 := Lib.hid (HK.out.trans hkd); obtain ⟨u7, u8, rfl, k7, k8⟩ := hv7; obtain ⟨b7, d7, rfl⟩ := k7.shape; obtain ⟨b8, d8, rfl⟩ := k8.shape; have K7 := Lib.hid k7; have K8 := Lib.hid k8; obtain ⟨_, _, _, _, ⟨t0, t1, t2⟩, hfr7, hgl7, _, _⟩ := HA7.out.at n (by rw [HLN.out]; exact hlt); have j0 := hfr7 (n * 3); have j1 := hfr7 (n * 3 + 1); have j2 := hfr7 (n * 3 + 2); clear k7 k8 hk7 hkd hfr7)
        all_goals
          have hs9 := HA7.out.store n (by rw [HLN.out]; exact hlt) K7.out K8.out
          rw [HST.out] at hs9
          have HS := Lib.hid hs9
          clear hs9
          generalize R.num.length = n7 at *
          generalize R.den.length = n8 at *
          go_wp2_with fail
          go_roundg (13 - (n + 1))
          case measure => omega
          case rel => exact ⟨n + 1, by omega, by omega, by go_num, Nat.le_refl _, HS, Lib.hid (((HK7.out.store (Nat.le_refl _) _ _).store (Nat.le_refl _) _ _).store (Nat.le_refl _) _ _)⟩
      · have etm : Int.tmod (n : Int) 2 = 1 := by rw [Int.tmod_eq_emod_of_nonneg (by omega)]; omega
        have HAD : Hid (∀ W u1 u2, RatAt W u1 (canR (altR ps ss j)) → RatAt W u2 (canR (incR ps ss n)) → Calls Tryz.prog 47 #[u1, u2] W fun e w' => (∃ v', e = .returned v' ∧ RatAt w' v' R) ∧ Kept W w') := Lib.hid fun W u1 u2 k1 k2 => by
          have h := radd_any u1 u2 _ _ W k1 k2 ⟨Nat.le_trans has.1 (by omega), Nat.le_trans has.2 (by omega)⟩ ⟨Nat.le_trans his.1 (by omega), Nat.le_trans his.2 (by omega)⟩
          rw [ratOf_can, ratOf_can, hn1', ← altR_odd (by omega), ← hn1', ← hR] at h
          exact h
        generalize (canR (altR ps ss j)).neg = e3 at *
        generalize (canR (altR ps ss j)).num.length = e4 at *
        generalize (canR (altR ps ss j)).den.length = e5 at *
        generalize (canR (incR ps ss n)).neg = e6 at *
        generalize (canR (incR ps ss n)).num.length = e7 at *
        generalize (canR (incR ps ss n)).den.length = e8 at *
        generalize (List.getD (altP ps ss n) n default).neg = e9 at *
        generalize (List.getD (altP ps ss n) n default).num.length = d1 at *
        generalize (List.getD (altP ps ss n) n default).den.length = d2 at *
        clear hfr hy1 hy2 hrg hrg2 hs1 hs2 has his hR hpar hn1' hj
        go_wp2_with fail
        go_region_with (go_at_call 47; (with_reducible refine (HAD.out _ _ _ (HXA.out _ (Kept.refl _).drew) (HYA.out _ (Kept.refl _).drew)).mono ?_); rintro e w7 ⟨⟨v7, rfl, hv7⟩, hk7⟩; have hkd := (Kept.refl wr).drew.trans hk7; have HA7 := Lib.hid (HA.out.kept hkd); have HK7 := Lib.hid (HK.out.trans hkd); obtain ⟨u7, u8, rfl, k7, k8⟩ := hv7; obtain ⟨b7, d7, rfl⟩ := k7.shape; obtain ⟨b8, d8, rfl⟩ := k8.shape; have K7 := Lib.hid k7; have K8 := Lib.hid k8; obtain ⟨_, _, _, _, ⟨t0, t1, t2⟩, hfr7, hgl7, _, _⟩ := HA7.out.at n (by rw [HLN.out]; exact hlt); have j0 := hfr7 (n * 3); have j1 := hfr7 (n * 3 + 1); have j2 := hfr7 (n * 3 + 2); clear k7 k8 hk7 hkd hfr7)
        all_goals
          have hs9 := HA7.out.store n (by rw [HLN.out]; exact hlt) K7.out K8.out
          rw [HST.out] at hs9
          have HS := Lib.hid hs9
          clear hs9
          generalize R.num.length = n7 at *
          generalize R.den.length = n8 at *
          go_wp2_with fail
          go_roundg (13 - (n + 1))
          case measure => omega
          case rel => exact ⟨n + 1, by omega, by omega, by go_num, Nat.le_refl _, HS, Lib.hid (((HK7.out.store (Nat.le_refl _) _ _).store (Nat.le_refl _) _ _).store (Nat.le_refl _) _ _)⟩
    · have hne : n = 13 := by omega
      have hni : ¬ (n : Int) < 13 := by omega
      have HR : Hid (RatsAt wr (.slice (some ⟨w1.heap.size, 0, none⟩) 13 13) (altL ps ss)) := Lib.hid (by
        have h := HA.out
        rw [hne, altP_all] at h
        exact h.rats (altL_len _ _).symm (Nat.le_refl _) (by omega))
      clear hne
      go_wp2
      go_ret
      exact ⟨⟨_, rfl, HK1.out.size, HR.out⟩, HK1.out.trans HK.out⟩
end Go.Proofs.YtbkchheikkbebaaGreatDoor

/-
  Walks: inclusion.Sum, Partial, Exact. Printed by gen_EA6.py.
-/
namespace Go.Proofs.YtbkchheikkbebaaGreatDoor
open Go.RowKit

/-- What Sum or Partial answers. -/
def sumV (xs : List Int) (ps : List Rw) (k : Int) : Rat := if incE xs ps k = 0 then incR ps (natsI xs) k.toNat else 0
set_option maxRecDepth 100000 in
set_option maxHeartbeats 8000000 in
theorem isum_any (xv v : Value) (xs : List Int) (ps : List Rw) (k : Int) (w : World) (hx : IntsAt w xv xs) (hv : RatsAt w v ps) (h3 : ∀ r ∈ ps, r.Short 3) (h30 : ps.length ≤ 30) (h6 : xs.length ≤ 6 ∨ 12 < xs.length) :
    Calls Tryz.prog 48 #[xv, v, .int .i64 k] w fun e w' => (∃ v', e = .returned (.tuple #[v', errV (incE xs ps k)]) ∧ RatAt w' v' (canR (sumV xs ps k))) ∧ Kept w w' := by
  have HCK : Hid (∀ W, Kept w W → Calls Tryz.prog 108 #[xv, v, .int .i64 k] W fun e w' => e = .returned (errV (incE xs ps k)) ∧ Kept W w') := Lib.hid fun W hk => incheck_any xv v xs ps k W (hx.kept hk) (hv.kept hk) h3
  have HSU : Hid (incE xs ps k = 0 → ∀ W, Kept w W → Calls Tryz.prog 123 #[xv, v] W fun e w' => (∃ v', e = .returned v' ∧ RatsAt w' v' (incL ps (natsI xs))) ∧ Kept W w') := Lib.hid fun h0 W hk => by
    obtain ⟨hr, _, _⟩ := incE_zero h0
    have hn := hr.nlen
    have hxn : IntsAt W xv (ofN (natsI xs)) := by rw [← (nats_of (chk_ok hr.ok).2).1]; exact hx.kept hk
    exact (sums_any xv v (natsI xs) ps W hxn (hv.kept hk) h3 h30 (by have := hr.len; omega) hr.gt)
  have HKB : Hid (incE xs ps k = 0 → 0 ≤ k ∧ k < 13) := Lib.hid fun h0 => by have := (incE_zero h0).2; omega
  obtain ⟨R, hR⟩ : ∃ R, R = canR (sumV xs ps k) := ⟨_, rfl⟩
  rw [← hR]
  have HRR := Lib.hid hR
  obtain ⟨q, hq⟩ : ∃ q, q = incE xs ps k := ⟨_, rfl⟩
  rw [← hq] at HCK HSU HKB ⊢
  have HQQ := Lib.hid hq
  obtain ⟨xa, xc, hxs, _⟩ := id hx
  obtain ⟨m, hml⟩ : ∃ m, m = xs.length := ⟨_, rfl⟩
  rw [← hml] at hxs
  subst hxs
  obtain ⟨pa, pc1, hps⟩ := hv.shape
  obtain ⟨pn, hpl⟩ : ∃ pn, pn = ps.length := ⟨_, rfl⟩
  rw [← hpl] at hps
  subst hps
  obtain ⟨w2, hw2⟩ : ∃ w2, w2 = w.alloc (.cells #[.bool false, .slice none 0 0, .slice none 0 0] 39) := ⟨_, rfl⟩
  have HR2 : Hid (RowAt w2 w.heap.size 39 [.bool false, .slice none 0 0, .slice none 0 0]) := Lib.hid (by rw [hw2]; exact RowAt.made w #[.bool false, .slice none 0 0, .slice none 0 0] 39)
  have HF2 : Hid (FixAt w2 w.heap.size [.bool false, .slice none 0 0, .slice none 0 0]) := Lib.hid (by rw [hw2]; exact FixAt.made w #[.bool false, .slice none 0 0, .slice none 0 0] 39)
  have HK2 : Hid (Kept w w2) := Lib.hid (by rw [hw2]; exact (Kept.refl _).alloc _)
  have HW2 := Lib.hid hw2
  clear hx hv h3 h30 h6 hR hq hml hpl hw2
  by_cases h0 : q = 0
  · subst h0
    rw [errV_zero] at HCK
    obtain ⟨hk0, hk13⟩ := HKB.out rfl
    replace HSU := Lib.hid (HSU.out rfl)
    obtain ⟨j, rfl⟩ : ∃ j : Nat, k = (j : Int) := ⟨k.toNat, by omega⟩
    have hj : j < 13 := by omega
    have HRJ : Hid (R = canR (incR ps (natsI xs) j)) := Lib.hid (by rw [HRR.out, sumV, if_pos HQQ.out.symm, Int.toNat_natCast])
    go_enter Tryz.func48, Tryz.ntmps48
    go_wp2_with fail
    rw [← HW2.out]
    refine (HCK.out _ HK2.out).mono ?_
    rintro e w3 ⟨rfl, hk3⟩
    have HK3 := Lib.hid (HK2.out.trans hk3)
    have HR3 := Lib.hid (HR2.out.kept hk3)
    have HF3 := Lib.hid (HF2.out.kept hk3)
    clear hk3
    go_wp2_with fail
    refine (HSU.out _ HK3.out).mono ?_
    rintro e w4 ⟨⟨sv, rfl, hsv⟩, hk4⟩
    have HK4 := Lib.hid (HK3.out.trans hk4)
    have hr4 := HR3.out.kept hk4
    have HF4 := Lib.hid (HF3.out.kept hk4)
    have HSV := Lib.hid hsv
    obtain ⟨sa, sc, hsh⟩ := hsv.shape
    rw [incL_len] at hsh
    subst hsh
    obtain ⟨b, o, u1, u2, rfl, hrg, hs1, hs2⟩ := HSV.out.get j (by rw [incL_len]; exact hj)
    rw [incL_get hj, ← HRJ.out] at hrg hs1 hs2
    obtain ⟨a5, c5, rfl⟩ := hs1.shape
    obtain ⟨a6, c6, rfl⟩ := hs2.shape
    have x0 := hrg 0 _ rfl
    have x1 := hrg 1 _ rfl
    have x2 := hrg 2 _ rfl
    rw [Nat.add_zero] at x0
    obtain ⟨y0, y1, y2, hra⟩ := rat_stored hr4 HF4.out hs1 hs2
    have g0 := hr4.cell (i := 0) (by simp)
    have g1 := hr4.cell (i := 1) (by simp)
    have g2 := hr4.cell (i := 2) (by simp)
    have f0 := hr4.free 0
    have f1 := hr4.free 1
    have f2 := hr4.free 2
    have hlt4 := hr4.lt
    have HRA := Lib.hid hra
    have Y := Lib.hid (And.intro y0 (And.intro y1 y2))
    clear hra y0 y1 y2 hs1 hs2 hrg hr4 hk4 hsv
    generalize R.num.length = n7 at *
    generalize R.den.length = n8 at *
    generalize R.neg = n9 at *
    go_wp2
    refine bodyPost_ret (v := .tuple #[.agg #[.bool n9, .slice a5 n7 c5, .slice a6 n8 c6], .nilIface]) ?_ rfl ⟨⟨_, rfl, HRA.out⟩, ?_⟩
    · simp [results, Tryz.results48, go_sem, Y.out.1, Y.out.2.1, Y.out.2.2]
    · exact ((HK4.out.store (by omega) _ _).store (by omega) _ _).store (by omega) _ _
  · have hqe : errV q = .iface 50 (.int .i64 q) := errV_pos h0
    rw [hqe] at HCK
    have HRZ : Hid (R = canR 0) := Lib.hid (by rw [HRR.out, sumV, if_neg (by rw [← HQQ.out]; exact h0)])
    have HQE := Lib.hid hqe
    clear hqe h0
    go_enter Tryz.func48, Tryz.ntmps48
    go_wp2_with fail
    rw [← HW2.out]
    refine (HCK.out _ HK2.out).mono ?_
    rintro e w5 ⟨rfl, hk5⟩
    have hr5 := HR2.out.kept hk5
    have HF5 := Lib.hid (HF2.out.kept hk5)
    have HK5 := Lib.hid (HK2.out.trans hk5)
    obtain ⟨y0, y1, y2, hra⟩ := rat_stored (r := ⟨false, [], []⟩) hr5 HF5.out (WdsAt.nil _) (WdsAt.nil _)
    have Y := Lib.hid (And.intro y0 (And.intro y1 y2))
    have HRA := Lib.hid hra
    have g0 := hr5.cell (i := 0) (by simp)
    have g1 := hr5.cell (i := 1) (by simp)
    have g2 := hr5.cell (i := 2) (by simp)
    have f0 := hr5.free 0
    have f1 := hr5.free 1
    have f2 := hr5.free 2
    have hlt5 := hr5.lt
    clear hk5 hr5 y0 y1 y2 hra
    go_wp2
    refine bodyPost_ret (v := .tuple #[.agg #[.bool false, .slice none 0 0, .slice none 0 0], .iface 50 (.int .i64 q)]) ?_ rfl ⟨⟨_, by rw [HQE.out], by rw [HRZ.out, canR_zero]; exact HRA.out⟩, ?_⟩
    · simp [results, Tryz.results48, go_sem, Y.out.1, Y.out.2.1, Y.out.2.2]
    · exact ((HK5.out.store (by omega) _ _).store (by omega) _ _).store (by omega) _ _
/-- What Sum or Partial answers. -/
def partV (xs : List Int) (ps : List Rw) (k : Int) : Rat := if incE xs ps k = 0 then altR ps (natsI xs) k.toNat else 0
set_option maxRecDepth 100000 in
set_option maxHeartbeats 8000000 in
theorem ipartial_any (xv v : Value) (xs : List Int) (ps : List Rw) (k : Int) (w : World) (hx : IntsAt w xv xs) (hv : RatsAt w v ps) (h3 : ∀ r ∈ ps, r.Short 3) (h30 : ps.length ≤ 30) (h6 : xs.length ≤ 6 ∨ 12 < xs.length) :
    Calls Tryz.prog 43 #[xv, v, .int .i64 k] w fun e w' => (∃ v', e = .returned (.tuple #[v', errV (incE xs ps k)]) ∧ RatAt w' v' (canR (partV xs ps k))) ∧ Kept w w' := by
  have HCK : Hid (∀ W, Kept w W → Calls Tryz.prog 108 #[xv, v, .int .i64 k] W fun e w' => e = .returned (errV (incE xs ps k)) ∧ Kept W w') := Lib.hid fun W hk => incheck_any xv v xs ps k W (hx.kept hk) (hv.kept hk) h3
  have HSU : Hid (incE xs ps k = 0 → ∀ W, Kept w W → Calls Tryz.prog 109 #[xv, v] W fun e w' => (∃ v', e = .returned v' ∧ RatsAt w' v' (altL ps (natsI xs))) ∧ Kept W w') := Lib.hid fun h0 W hk => by
    obtain ⟨hr, _, _⟩ := incE_zero h0
    have hn := hr.nlen
    have hxn : IntsAt W xv (ofN (natsI xs)) := by rw [← (nats_of (chk_ok hr.ok).2).1]; exact hx.kept hk
    exact (partials_any xv v (natsI xs) ps W hxn (hv.kept hk) h3 h30 (by have := hr.len; omega) hr.gt).mono fun _ _ ⟨⟨g, h1, _, h2⟩, h3⟩ => ⟨⟨_, h1, h2⟩, h3⟩
  have HKB : Hid (incE xs ps k = 0 → 0 ≤ k ∧ k < 13) := Lib.hid fun h0 => by have := (incE_zero h0).2; omega
  obtain ⟨R, hR⟩ : ∃ R, R = canR (partV xs ps k) := ⟨_, rfl⟩
  rw [← hR]
  have HRR := Lib.hid hR
  obtain ⟨q, hq⟩ : ∃ q, q = incE xs ps k := ⟨_, rfl⟩
  rw [← hq] at HCK HSU HKB ⊢
  have HQQ := Lib.hid hq
  obtain ⟨xa, xc, hxs, _⟩ := id hx
  obtain ⟨m, hml⟩ : ∃ m, m = xs.length := ⟨_, rfl⟩
  rw [← hml] at hxs
  subst hxs
  obtain ⟨pa, pc1, hps⟩ := hv.shape
  obtain ⟨pn, hpl⟩ : ∃ pn, pn = ps.length := ⟨_, rfl⟩
  rw [← hpl] at hps
  subst hps
  obtain ⟨w2, hw2⟩ : ∃ w2, w2 = w.alloc (.cells #[.bool false, .slice none 0 0, .slice none 0 0] 39) := ⟨_, rfl⟩
  have HR2 : Hid (RowAt w2 w.heap.size 39 [.bool false, .slice none 0 0, .slice none 0 0]) := Lib.hid (by rw [hw2]; exact RowAt.made w #[.bool false, .slice none 0 0, .slice none 0 0] 39)
  have HF2 : Hid (FixAt w2 w.heap.size [.bool false, .slice none 0 0, .slice none 0 0]) := Lib.hid (by rw [hw2]; exact FixAt.made w #[.bool false, .slice none 0 0, .slice none 0 0] 39)
  have HK2 : Hid (Kept w w2) := Lib.hid (by rw [hw2]; exact (Kept.refl _).alloc _)
  have HW2 := Lib.hid hw2
  clear hx hv h3 h30 h6 hR hq hml hpl hw2
  by_cases h0 : q = 0
  · subst h0
    rw [errV_zero] at HCK
    obtain ⟨hk0, hk13⟩ := HKB.out rfl
    replace HSU := Lib.hid (HSU.out rfl)
    obtain ⟨j, rfl⟩ : ∃ j : Nat, k = (j : Int) := ⟨k.toNat, by omega⟩
    have hj : j < 13 := by omega
    have HRJ : Hid (R = canR (altR ps (natsI xs) j)) := Lib.hid (by rw [HRR.out, partV, if_pos HQQ.out.symm, Int.toNat_natCast])
    go_enter Tryz.func43, Tryz.ntmps43
    go_wp2_with fail
    rw [← HW2.out]
    refine (HCK.out _ HK2.out).mono ?_
    rintro e w3 ⟨rfl, hk3⟩
    have HK3 := Lib.hid (HK2.out.trans hk3)
    have HR3 := Lib.hid (HR2.out.kept hk3)
    have HF3 := Lib.hid (HF2.out.kept hk3)
    clear hk3
    go_wp2_with fail
    refine (HSU.out _ HK3.out).mono ?_
    rintro e w4 ⟨⟨sv, rfl, hsv⟩, hk4⟩
    have HK4 := Lib.hid (HK3.out.trans hk4)
    have hr4 := HR3.out.kept hk4
    have HF4 := Lib.hid (HF3.out.kept hk4)
    have HSV := Lib.hid hsv
    obtain ⟨sa, sc, hsh⟩ := hsv.shape
    rw [altL_len] at hsh
    subst hsh
    obtain ⟨b, o, u1, u2, rfl, hrg, hs1, hs2⟩ := HSV.out.get j (by rw [altL_len]; exact hj)
    rw [altL_get hj, ← HRJ.out] at hrg hs1 hs2
    obtain ⟨a5, c5, rfl⟩ := hs1.shape
    obtain ⟨a6, c6, rfl⟩ := hs2.shape
    have x0 := hrg 0 _ rfl
    have x1 := hrg 1 _ rfl
    have x2 := hrg 2 _ rfl
    rw [Nat.add_zero] at x0
    obtain ⟨y0, y1, y2, hra⟩ := rat_stored hr4 HF4.out hs1 hs2
    have g0 := hr4.cell (i := 0) (by simp)
    have g1 := hr4.cell (i := 1) (by simp)
    have g2 := hr4.cell (i := 2) (by simp)
    have f0 := hr4.free 0
    have f1 := hr4.free 1
    have f2 := hr4.free 2
    have hlt4 := hr4.lt
    have HRA := Lib.hid hra
    have Y := Lib.hid (And.intro y0 (And.intro y1 y2))
    clear hra y0 y1 y2 hs1 hs2 hrg hr4 hk4 hsv
    generalize R.num.length = n7 at *
    generalize R.den.length = n8 at *
    generalize R.neg = n9 at *
    go_wp2
    refine bodyPost_ret (v := .tuple #[.agg #[.bool n9, .slice a5 n7 c5, .slice a6 n8 c6], .nilIface]) ?_ rfl ⟨⟨_, rfl, HRA.out⟩, ?_⟩
    · simp [results, Tryz.results43, go_sem, Y.out.1, Y.out.2.1, Y.out.2.2]
    · exact ((HK4.out.store (by omega) _ _).store (by omega) _ _).store (by omega) _ _
  · have hqe : errV q = .iface 50 (.int .i64 q) := errV_pos h0
    rw [hqe] at HCK
    have HRZ : Hid (R = canR 0) := Lib.hid (by rw [HRR.out, partV, if_neg (by rw [← HQQ.out]; exact h0)])
    have HQE := Lib.hid hqe
    clear hqe h0
    go_enter Tryz.func43, Tryz.ntmps43
    go_wp2_with fail
    rw [← HW2.out]
    refine (HCK.out _ HK2.out).mono ?_
    rintro e w5 ⟨rfl, hk5⟩
    have hr5 := HR2.out.kept hk5
    have HF5 := Lib.hid (HF2.out.kept hk5)
    have HK5 := Lib.hid (HK2.out.trans hk5)
    obtain ⟨y0, y1, y2, hra⟩ := rat_stored (r := ⟨false, [], []⟩) hr5 HF5.out (WdsAt.nil _) (WdsAt.nil _)
    have Y := Lib.hid (And.intro y0 (And.intro y1 y2))
    have HRA := Lib.hid hra
    have g0 := hr5.cell (i := 0) (by simp)
    have g1 := hr5.cell (i := 1) (by simp)
    have g2 := hr5.cell (i := 2) (by simp)
    have f0 := hr5.free 0
    have f1 := hr5.free 1
    have f2 := hr5.free 2
    have hlt5 := hr5.lt
    clear hk5 hr5 y0 y1 y2 hra
    go_wp2
    refine bodyPost_ret (v := .tuple #[.agg #[.bool false, .slice none 0 0, .slice none 0 0], .iface 50 (.int .i64 q)]) ?_ rfl ⟨⟨_, by rw [HQE.out], by rw [HRZ.out, canR_zero]; exact HRA.out⟩, ?_⟩
    · simp [results, Tryz.results43, go_sem, Y.out.1, Y.out.2.1, Y.out.2.2]
    · exact ((HK5.out.store (by omega) _ _).store (by omega) _ _).store (by omega) _ _
set_option maxRecDepth 100000 in
set_option maxHeartbeats 8000000 in
theorem iexact_any (xv v : Value) (xs : List Int) (ps : List Rw) (w : World) (hx : IntsAt w xv xs) (hv : RatsAt w v ps) (h3 : ∀ r ∈ ps, r.Short 3) (h30 : ps.length ≤ 30) (h6 : xs.length ≤ 6 ∨ 12 < xs.length) :
    Calls Tryz.prog 38 #[xv, v] w fun e w' => (∃ v', e = .returned (.tuple #[v', errV (incE xs ps 12)]) ∧ RatAt w' v' (canR (partV xs ps 12))) ∧ Kept w w' := by
  have HPA : Hid (∀ W, Kept w W → Calls Tryz.prog 43 #[xv, v, .int .i64 12] W fun e w' => (∃ v', e = .returned (.tuple #[v', errV (incE xs ps 12)]) ∧ RatAt w' v' (canR (partV xs ps 12))) ∧ Kept W w') := Lib.hid fun W hk => ipartial_any xv v xs ps 12 W (hx.kept hk) (hv.kept hk) h3 h30 h6
  obtain ⟨q, hq⟩ : ∃ q, q = errV (incE xs ps 12) := ⟨_, rfl⟩
  obtain ⟨R, hR⟩ : ∃ R, R = canR (partV xs ps 12) := ⟨_, rfl⟩
  rw [← hq, ← hR] at HPA ⊢
  obtain ⟨xa, xc, hxs, _⟩ := id hx
  obtain ⟨m, hml⟩ : ∃ m, m = xs.length := ⟨_, rfl⟩
  rw [← hml] at hxs
  subst hxs
  obtain ⟨pa, pc1, hps⟩ := hv.shape
  obtain ⟨pn, hpl⟩ : ∃ pn, pn = ps.length := ⟨_, rfl⟩
  rw [← hpl] at hps
  subst hps
  obtain ⟨w2, hw2⟩ : ∃ w2, w2 = w.alloc (.cells #[.bool false, .slice none 0 0, .slice none 0 0] 39) := ⟨_, rfl⟩
  have HR2 : Hid (RowAt w2 w.heap.size 39 [.bool false, .slice none 0 0, .slice none 0 0]) := Lib.hid (by rw [hw2]; exact RowAt.made w #[.bool false, .slice none 0 0, .slice none 0 0] 39)
  have HF2 : Hid (FixAt w2 w.heap.size [.bool false, .slice none 0 0, .slice none 0 0]) := Lib.hid (by rw [hw2]; exact FixAt.made w #[.bool false, .slice none 0 0, .slice none 0 0] 39)
  have HK2 : Hid (Kept w w2) := Lib.hid (by rw [hw2]; exact (Kept.refl _).alloc _)
  have HW2 := Lib.hid hw2
  clear hx hv h3 h30 h6 hR hq hml hpl hw2
  go_enter Tryz.func38, Tryz.ntmps38
  go_wp2_with fail
  rw [← HW2.out]
  refine (HPA.out _ HK2.out).mono ?_
  rintro e w4 ⟨⟨v4, rfl, hv4⟩, hk4⟩
  have HK4 := Lib.hid (HK2.out.trans hk4)
  have hr4 := HR2.out.kept hk4
  have HF4 := Lib.hid (HF2.out.kept hk4)
  obtain ⟨u5, u6, rfl, k5, k6⟩ := hv4
  obtain ⟨a5, c5, rfl⟩ := k5.shape
  obtain ⟨a6, c6, rfl⟩ := k6.shape
  obtain ⟨y0, y1, y2, hra⟩ := rat_stored hr4 HF4.out k5 k6
  have g0 := hr4.cell (i := 0) (by simp)
  have g1 := hr4.cell (i := 1) (by simp)
  have g2 := hr4.cell (i := 2) (by simp)
  have f0 := hr4.free 0
  have f1 := hr4.free 1
  have f2 := hr4.free 2
  have hlt4 := hr4.lt
  have HRA := Lib.hid hra
  have Y := Lib.hid (And.intro y0 (And.intro y1 y2))
  clear hra y0 y1 y2 k5 k6 hr4 hk4
  generalize R.num.length = n7 at *
  generalize R.den.length = n8 at *
  generalize R.neg = n9 at *
  go_wp2
  refine bodyPost_ret (v := .tuple #[.agg #[.bool n9, .slice a5 n7 c5, .slice a6 n8 c6], q]) ?_ rfl ⟨⟨_, rfl, HRA.out⟩, ?_⟩
  · simp [results, Tryz.results38, go_sem, Y.out.1, Y.out.2.1, Y.out.2.2]
  · exact ((HK4.out.store (by omega) _ _).store (by omega) _ _).store (by omega) _ _
end Go.Proofs.YtbkchheikkbebaaGreatDoor

/-
  Walk: faultlineref39.sum.
-/
namespace Go.Proofs.YtbkchheikkbebaaGreatDoor
open Go.RowKit

theorem incC_big {ps : List Rw} {l : List Nat} {k c : Nat} (h : l.length < k) : incC ps l k c = 0 := incQ_big h
set_option maxRecDepth 100000 in
set_option maxHeartbeats 16000000 in
theorem refsum_any (v : Value) (ps : List Rw) (h3 : ∀ r ∈ ps, r.Short 3) (h30 : ps.length ≤ 30) : ∀ (l : List Nat) (xv : Value) (k c : Nat) (w : World), IntsAt w xv (ofN l) → RatsAt w v ps → l.length ≤ 6 → k ≤ 12 → (∀ s ∈ l, s < 16777216 ∧ gtK s < (ps.length : Int)) → c < 16777216 → gtK c < (ps.length : Int) →
    Calls Tryz.prog 106 #[xv, v, .int .i64 k, .int .i64 c] w fun e w' => (∃ v', e = .returned v' ∧ RatAt w' v' (canR (incC ps l k c))) ∧ Kept w w' := by
  intro l
  induction l with
  | nil =>
    intro xv k c w hx hv h6 hk12 hg hc hcg
    obtain ⟨w2, hw2⟩ : ∃ w2, w2 = w.alloc (.cells #[.bool false, .slice none 0 0, .slice none 0 0] 39) := ⟨_, rfl⟩
    have HR2 : Hid (RowAt w2 w.heap.size 39 [.bool false, .slice none 0 0, .slice none 0 0]) := Lib.hid (by rw [hw2]; exact RowAt.made w #[.bool false, .slice none 0 0, .slice none 0 0] 39)
    have HF2 : Hid (FixAt w2 w.heap.size [.bool false, .slice none 0 0, .slice none 0 0]) := Lib.hid (by rw [hw2]; exact FixAt.made w #[.bool false, .slice none 0 0, .slice none 0 0] 39)
    have HK2 : Hid (Kept w w2) := Lib.hid (by rw [hw2]; exact (Kept.refl _).alloc _)
    have HW2 := Lib.hid hw2
    cases k with
    | zero =>
      have HPR : Hid (∀ W, Kept w W → Calls Tryz.prog 182 #[v, .int .i64 c] W fun e w' => (∃ v', e = .returned v' ∧ RatAt w' v' (canR (incC ps [] 0 c))) ∧ Kept W w') := Lib.hid fun W hk => by
        rw [incC_zero]
        exact refproduct_any c v ps W hc (hv.kept hk) h3 hcg
      obtain ⟨R, hR⟩ : ∃ R, R = canR (incC ps [] 0 c) := ⟨_, rfl⟩
      rw [← hR] at HPR ⊢
      obtain ⟨xa, xc, hxs, _⟩ := id hx
      obtain ⟨m, hm⟩ : ∃ m, m = (ofN []).length := ⟨_, rfl⟩
      rw [← hm] at hxs
      subst hxs
      obtain ⟨pa, pc1, hps⟩ := hv.shape
      obtain ⟨pn, hpn⟩ : ∃ pn, pn = ps.length := ⟨_, rfl⟩
      rw [← hpn] at hps
      subst hps
      clear hx hv h6 hg hc hcg hR hm hpn hw2 h30 h3
      go_enter Tryz.func106, Tryz.ntmps106
      go_wp2_with fail
      rw [← HW2.out]
      refine (HPR.out _ HK2.out).mono ?_
      rintro e w4 ⟨⟨v4, rfl, hv4⟩, hk4⟩
      obtain ⟨u1, u2, rfl, h1, h2⟩ := hv4
      obtain ⟨a5, c5, rfl⟩ := h1.shape
      obtain ⟨a6, c6, rfl⟩ := h2.shape
      have hr4 := HR2.out.kept hk4
      have HF4 := Lib.hid (HF2.out.kept hk4)
      have HK4 := Lib.hid (HK2.out.trans hk4)
      obtain ⟨y0, y1, y2, hra⟩ := rat_stored hr4 HF4.out h1 h2
      have g0 := hr4.cell (i := 0) (by simp)
      have g1 := hr4.cell (i := 1) (by simp)
      have g2 := hr4.cell (i := 2) (by simp)
      have f0 := hr4.free 0
      have f1 := hr4.free 1
      have f2 := hr4.free 2
      have hlt4 := hr4.lt
      have HRA := Lib.hid hra
      have Y := Lib.hid (And.intro y0 (And.intro y1 y2))
      clear hra y0 y1 y2 h1 h2 hr4 hk4
      generalize R.num.length = n7 at *
      generalize R.den.length = n8 at *
      generalize R.neg = n9 at *
      go_wp2
      refine bodyPost_ret (v := .agg #[.bool n9, .slice a5 n7 c5, .slice a6 n8 c6]) ?_ rfl ⟨⟨_, rfl, HRA.out⟩, ?_⟩
      · simp [results, Tryz.results106, go_sem, Y.out.1, Y.out.2.1, Y.out.2.2]
      · exact ((HK4.out.store (by omega) _ _).store (by omega) _ _).store (by omega) _ _
    | succ k =>
      have HRZ : Hid (incC ps [] (k + 1) c = 0) := Lib.hid (incC_big (by simp))
      obtain ⟨xa, xc, hxs, _⟩ := id hx
      rw [show (ofN []).length = 0 from rfl] at hxs
      subst hxs
      obtain ⟨pa, pc1, hps⟩ := hv.shape
      obtain ⟨pn, hpn⟩ : ∃ pn, pn = ps.length := ⟨_, rfl⟩
      rw [← hpn] at hps
      subst hps
      have hk1 : ¬ ((k + 1 : Nat) : Int) = 0 := by omega
      have hk2 : (0 : Int) < ((k + 1 : Nat) : Int) := by omega
      generalize incC ps [] (k + 1) c = Z at *
      generalize k + 1 = K at *
      have hr5 := HR2.out
      have g0 := hr5.cell (i := 0) (by simp)
      have g1 := hr5.cell (i := 1) (by simp)
      have g2 := hr5.cell (i := 2) (by simp)
      simp only [List.getElem_cons_succ, List.getElem_cons_zero] at g0 g1 g2
      have Y := Lib.hid (And.intro g0 (And.intro g1 g2))
      clear hr5 g0 g1 g2
      clear hx hv h6 hg hc hcg hpn hw2 h30 h3 hk12
      go_enter Tryz.func106, Tryz.ntmps106
      go_wp2
      rw [← HW2.out]
      refine bodyPost_ret (v := .agg #[.bool false, .slice none 0 0, .slice none 0 0]) ?_ rfl ⟨⟨_, rfl, by rw [HRZ.out, canR_zero]; exact RatAt.zero _⟩, HK2.out⟩
      simp [results, Tryz.results106, go_sem, Y.out.1, Y.out.2.1, Y.out.2.2]
  | cons s l ih =>
    intro xv k c w hx hv h6 hk12 hg hc hcg
    obtain ⟨w2, hw2⟩ : ∃ w2, w2 = w.alloc (.cells #[.bool false, .slice none 0 0, .slice none 0 0] 39) := ⟨_, rfl⟩
    have HR2 : Hid (RowAt w2 w.heap.size 39 [.bool false, .slice none 0 0, .slice none 0 0]) := Lib.hid (by rw [hw2]; exact RowAt.made w #[.bool false, .slice none 0 0, .slice none 0 0] 39)
    have HF2 : Hid (FixAt w2 w.heap.size [.bool false, .slice none 0 0, .slice none 0 0]) := Lib.hid (by rw [hw2]; exact FixAt.made w #[.bool false, .slice none 0 0, .slice none 0 0] 39)
    have HK2 : Hid (Kept w w2) := Lib.hid (by rw [hw2]; exact (Kept.refl _).alloc _)
    have HW2 := Lib.hid hw2
    cases k with
    | zero =>
      have HPR : Hid (∀ W, Kept w W → Calls Tryz.prog 182 #[v, .int .i64 c] W fun e w' => (∃ v', e = .returned v' ∧ RatAt w' v' (canR (incC ps (s :: l) 0 c))) ∧ Kept W w') := Lib.hid fun W hk => by
        rw [incC_zero]
        exact refproduct_any c v ps W hc (hv.kept hk) h3 hcg
      obtain ⟨R, hR⟩ : ∃ R, R = canR (incC ps (s :: l) 0 c) := ⟨_, rfl⟩
      rw [← hR] at HPR ⊢
      obtain ⟨xa, xc, hxs, _⟩ := id hx
      obtain ⟨m, hm⟩ : ∃ m, m = (ofN (s :: l)).length := ⟨_, rfl⟩
      rw [← hm] at hxs
      subst hxs
      obtain ⟨pa, pc1, hps⟩ := hv.shape
      obtain ⟨pn, hpn⟩ : ∃ pn, pn = ps.length := ⟨_, rfl⟩
      rw [← hpn] at hps
      subst hps
      clear hx hv h6 hg hc hcg hR hm hpn hw2 h30 h3 ih
      go_enter Tryz.func106, Tryz.ntmps106
      go_wp2_with fail
      rw [← HW2.out]
      refine (HPR.out _ HK2.out).mono ?_
      rintro e w4 ⟨⟨v4, rfl, hv4⟩, hk4⟩
      obtain ⟨u1, u2, rfl, h1, h2⟩ := hv4
      obtain ⟨a5, c5, rfl⟩ := h1.shape
      obtain ⟨a6, c6, rfl⟩ := h2.shape
      have hr4 := HR2.out.kept hk4
      have HF4 := Lib.hid (HF2.out.kept hk4)
      have HK4 := Lib.hid (HK2.out.trans hk4)
      obtain ⟨y0, y1, y2, hra⟩ := rat_stored hr4 HF4.out h1 h2
      have g0 := hr4.cell (i := 0) (by simp)
      have g1 := hr4.cell (i := 1) (by simp)
      have g2 := hr4.cell (i := 2) (by simp)
      have f0 := hr4.free 0
      have f1 := hr4.free 1
      have f2 := hr4.free 2
      have hlt4 := hr4.lt
      have HRA := Lib.hid hra
      have Y := Lib.hid (And.intro y0 (And.intro y1 y2))
      clear hra y0 y1 y2 h1 h2 hr4 hk4
      generalize R.num.length = n7 at *
      generalize R.den.length = n8 at *
      generalize R.neg = n9 at *
      go_wp2
      refine bodyPost_ret (v := .agg #[.bool n9, .slice a5 n7 c5, .slice a6 n8 c6]) ?_ rfl ⟨⟨_, rfl, HRA.out⟩, ?_⟩
      · simp [results, Tryz.results106, go_sem, Y.out.1, Y.out.2.1, Y.out.2.2]
      · exact ((HK4.out.store (by omega) _ _).store (by omega) _ _).store (by omega) _ _
    | succ k =>
      by_cases hlk : (s :: l).length < k + 1
      · have HRZ : Hid (incC ps (s :: l) (k + 1) c = 0) := Lib.hid (incC_big hlk)
        obtain ⟨xa, xc, hxs, _⟩ := id hx
        obtain ⟨m, hm⟩ : ∃ m, m = (ofN (s :: l)).length := ⟨_, rfl⟩
        rw [← hm] at hxs
        subst hxs
        obtain ⟨pa, pc1, hps⟩ := hv.shape
        obtain ⟨pn, hpn⟩ : ∃ pn, pn = ps.length := ⟨_, rfl⟩
        rw [← hpn] at hps
        subst hps
        have hml : m = (s :: l).length := by rw [hm]; simp [ofN]
        have hk1 : ¬ ((k + 1 : Nat) : Int) = 0 := by omega
        have hk2 : (m : Int) < ((k + 1 : Nat) : Int) := by omega
        generalize incC ps (s :: l) (k + 1) c = Z at *
        generalize k + 1 = K at *
        have hr5 := HR2.out
        have g0 := hr5.cell (i := 0) (by simp)
        have g1 := hr5.cell (i := 1) (by simp)
        have g2 := hr5.cell (i := 2) (by simp)
        simp only [List.getElem_cons_succ, List.getElem_cons_zero] at g0 g1 g2
        have Y := Lib.hid (And.intro g0 (And.intro g1 g2))
        clear hr5 g0 g1 g2
        clear hx hv h6 hg hc hcg hpn hw2 h30 h3 hk12 ih hm hml hlk
        go_enter Tryz.func106, Tryz.ntmps106
        go_wp2
        rw [← HW2.out]
        refine bodyPost_ret (v := .agg #[.bool false, .slice none 0 0, .slice none 0 0]) ?_ rfl ⟨⟨_, rfl, by rw [HRZ.out, canR_zero]; exact RatAt.zero _⟩, HK2.out⟩
        simp [results, Tryz.results106, go_sem, Y.out.1, Y.out.2.1, Y.out.2.2]
      · have hs := hg s List.mem_cons_self
        obtain ⟨hz1, hz2⟩ := gt_or (by omega) hc hs.1 hcg hs.2
        have hor := or_i64 c s (by omega) (by omega)
        obtain ⟨xa, xc, hxs, ⟨hxc, _⟩, _⟩ := id hx
        obtain ⟨m, hm⟩ : ∃ m, m = l.length := ⟨_, rfl⟩
        have hml : (ofN (s :: l)).length = m + 1 := by rw [hm]; simp [ofN]
        rw [hml] at hxs hxc
        subst hxs
        obtain ⟨b, o, rfl, hce⟩ := hx.get 0 (by simp [ofN])
        have hdrop := hx
        rw [← hml] at hdrop
        replace hdrop := hdrop.drop 1 (by simp [ofN])
        rw [hml, show (ofN (s :: l)).drop 1 = ofN l from rfl, Nat.add_sub_cancel] at hdrop
        have e0 : (ofN (s :: l))[0]'(by simp [ofN]) = (s : Int) := rfl
        rw [e0, Nat.add_zero] at hce
        obtain ⟨z, hz⟩ : ∃ z, z = c ||| s := ⟨_, rfl⟩
        rw [← hz] at hz1 hz2 hor
        have HSA : Hid (∀ sa sc, IntsAt w (.slice sa m sc) (ofN l) → ∀ W, Kept w W → Calls Tryz.prog 106 #[.slice sa m sc, v, .int .i64 k, .int .i64 z] W fun e w' => (∃ v', e = .returned v' ∧ RatAt w' v' (canR (incC ps l k z))) ∧ Kept W w') := Lib.hid fun sa sc hi W hk => ih _ k z W (hi.kept hk) (hv.kept hk) (by simp at h6; omega) (by omega) (fun y hy => hg y (List.mem_cons_of_mem _ hy)) hz1 hz2
        have HSB : Hid (∀ sa sc, IntsAt w (.slice sa m sc) (ofN l) → ∀ W, Kept w W → Calls Tryz.prog 106 #[.slice sa m sc, v, .int .i64 (k + 1 : Nat), .int .i64 c] W fun e w' => (∃ v', e = .returned v' ∧ RatAt w' v' (canR (incC ps l (k + 1) c))) ∧ Kept W w') := Lib.hid fun sa sc hi W hk => ih _ (k + 1) c W (hi.kept hk) (hv.kept hk) (by simp at h6; omega) hk12 (fun y hy => hg y (List.mem_cons_of_mem _ hy)) hc hcg
        have hl6 : 2 ^ l.length ≤ 2 ^ 6 := Nat.pow_le_pow_right (by decide) (by simp at h6; omega)
        have t1 := incC_short (l := l) (k := k) (c := z) h30 h3 hv.ok
        have t2 := incC_short (l := l) (k := k + 1) (c := c) h30 h3 hv.ok
        obtain ⟨R, hR⟩ : ∃ R, R = canR (incC ps (s :: l) (k + 1) c) := ⟨_, rfl⟩
        have HAD : Hid (∀ W u1 u2, RatAt W u1 (canR (incC ps l k z)) → RatAt W u2 (canR (incC ps l (k + 1) c)) → Calls Tryz.prog 91 #[u1, u2] W fun e w' => (∃ v', e = .returned v' ∧ RatAt w' v' R) ∧ Kept W w') := Lib.hid fun W u1 u2 k1 k2 => by
          have h := refadd02_any u1 u2 _ _ W k1 k2 ⟨Nat.le_trans t1.1 (by omega), Nat.le_trans t1.2 (by omega)⟩ ⟨Nat.le_trans t2.1 (by omega), Nat.le_trans t2.2 (by omega)⟩
          rw [ratOf_can, ratOf_can, hz, ← incC_cons, ← hR] at h
          exact h
        rw [← hR]
        obtain ⟨pa, pc1, hps⟩ := hv.shape
        obtain ⟨pn, hpn⟩ : ∃ pn, pn = ps.length := ⟨_, rfl⟩
        rw [← hpn] at hps
        subst hps
        generalize (canR (incC ps l k z)) = T1 at *
        generalize (canR (incC ps l (k + 1) c)) = T2 at *
        obtain ⟨K, hK⟩ : ∃ K, K = k + 1 := ⟨_, rfl⟩
        rw [← hK] at HSB hk12 ⊢
        have hc2 := HK2.out.cell hce
        have hk1 : ¬ (K : Int) = 0 := by omega
        have hk2 : ¬ (m : Int) + 1 < (K : Int) := by simp at hlk; omega
        have dk : decide ((m : Int) + 1 < (K : Int)) = false := decide_eq_false hk2
        have hkk : IntKind.i64.wrap ((K : Int) - 1) = (k : Int) := by rw [IntKind.wrap_i64]; omega
        have hkw : IntKind.i64.wrap (k : Int) = (k : Int) := by rw [IntKind.wrap_i64]; omega
        have hxc0 : (1 : Int) ≤ (m : Int) + 1 := by omega
        have hxc1 : (m : Int) + 1 ≤ (xc : Int) := by omega
        have HB := Lib.hid (And.intro hor (And.intro hz1 hz2))
        by_cases hx1 : xc = 1
        · have hm0 : m = 0 := by omega
          have hd0 : IntsAt w (.slice (some ⟨b, o, none⟩) m 0) (ofN l) := by
            have hl0 : l = [] := List.eq_nil_of_length_eq_zero (by omega)
            subst hl0 hm0
            exact ⟨_, 0, rfl, ⟨Nat.le_refl _, fun h => by cases h⟩, by simp [ofN], fun i hi => by simp [ofN] at hi⟩
          have hs1 := HSA.out _ _ hd0
          have hs2 := HSB.out _ _ hd0
          rw [hm0] at hs1 hs2
          have HS1 := Lib.hid hs1
          have HS2 := Lib.hid hs2
          subst hx1
          clear hx hv h6 hg hc hcg hpn hw2 h30 h3 hk12 ih hlk hs hdrop hml hz hR hl6 t1 t2 hce hm hK hz2 hd0 hm0 HSA HSB hs1 hs2
          go_enter Tryz.func106, Tryz.ntmps106
          go_wp2_with fail
          rw [← HW2.out]
          go_wp2_with fail
          go_region_with (first
            | (go_at_call 106; (with_reducible refine (HS1.out _ HK2.out.drew).mono ?_); rintro e w3 ⟨⟨v3, rfl, hv3⟩, hk3⟩; have hkd := (Kept.refl w2).drew.trans hk3; have HV3 := Lib.hid hv3; have HKD := Lib.hid hkd; have d2 := hkd.cell hc2; clear hv3 hk3 hkd)
            | (go_at_call 106; (with_reducible refine (HS2.out _ (HK2.out.trans HKD.out)).mono ?_); rintro e w4 ⟨⟨v4, rfl, hv4⟩, hk4⟩; have HV4 := Lib.hid hv4; have HV5 := Lib.hid (HV3.out.kept hk4); have HKE := Lib.hid (HKD.out.trans hk4); clear hv4 hk4)
            | (go_at_call 91; (with_reducible refine (HAD.out _ _ _ HV5.out HV4.out).mono ?_); rintro e w6 ⟨⟨v6, rfl, hv6⟩, hk6⟩; have hk9 := HKE.out.trans hk6; have HK9 := Lib.hid hk9; have hr9 := HR2.out.kept hk9; have HR9 := Lib.hid hr9; have HF9 := Lib.hid (HF2.out.kept hk9); obtain ⟨u5, u6, rfl, k5, k6⟩ := hv6; obtain ⟨a5, c5, rfl⟩ := k5.shape; obtain ⟨a6, c6, rfl⟩ := k6.shape; have K5 := Lib.hid k5; have K6 := Lib.hid k6; have z0 := hr9.cell (i := 0) (by simp); have z1 := hr9.cell (i := 1) (by simp); have z2 := hr9.cell (i := 2) (by simp); have f0 := hr9.free 0; have f1 := hr9.free 1; have f2 := hr9.free 2; clear k5 k6 hr9 hk6 hk9))
          all_goals
            obtain ⟨y0, y1, y2, hra⟩ := rat_stored HR9.out HF9.out K5.out K6.out
            generalize R.num.length = n7 at *
            generalize R.den.length = n8 at *
            go_wp2
            refine bodyPost_ret (v := .agg #[.bool R.neg, .slice a5 n7 c5, .slice a6 n8 c6]) ?_ rfl ⟨⟨_, rfl, hra⟩, ?_⟩
            · simp [results, Tryz.results106, go_sem, y0, y1, y2]
            · exact (((HK2.out.trans HK9.out).store (by omega) _ _).store (by omega) _ _).store (by omega) _ _
        · have HS1 := Lib.hid (HSA.out _ _ hdrop)
          have HS2 := Lib.hid (HSB.out _ _ hdrop)
          clear hx hv h6 hg hc hcg hpn hw2 h30 h3 hk12 ih hlk hs hdrop hml hz hR hl6 t1 t2 hce hm hK hz2 HSA HSB
          go_enter Tryz.func106, Tryz.ntmps106
          go_wp2_with fail
          rw [← HW2.out]
          go_wp2_with fail
          go_region_with (first
            | (go_at_call 106; (with_reducible refine (HS1.out _ HK2.out.drew).mono ?_); rintro e w3 ⟨⟨v3, rfl, hv3⟩, hk3⟩; have hkd := (Kept.refl w2).drew.trans hk3; have HV3 := Lib.hid hv3; have HKD := Lib.hid hkd; have d2 := hkd.cell hc2; clear hv3 hk3 hkd)
            | (go_at_call 106; (with_reducible refine (HS2.out _ (HK2.out.trans HKD.out)).mono ?_); rintro e w4 ⟨⟨v4, rfl, hv4⟩, hk4⟩; have HV4 := Lib.hid hv4; have HV5 := Lib.hid (HV3.out.kept hk4); have HKE := Lib.hid (HKD.out.trans hk4); clear hv4 hk4)
            | (go_at_call 91; (with_reducible refine (HAD.out _ _ _ HV5.out HV4.out).mono ?_); rintro e w6 ⟨⟨v6, rfl, hv6⟩, hk6⟩; have hk9 := HKE.out.trans hk6; have HK9 := Lib.hid hk9; have hr9 := HR2.out.kept hk9; have HR9 := Lib.hid hr9; have HF9 := Lib.hid (HF2.out.kept hk9); obtain ⟨u5, u6, rfl, k5, k6⟩ := hv6; obtain ⟨a5, c5, rfl⟩ := k5.shape; obtain ⟨a6, c6, rfl⟩ := k6.shape; have K5 := Lib.hid k5; have K6 := Lib.hid k6; have z0 := hr9.cell (i := 0) (by simp); have z1 := hr9.cell (i := 1) (by simp); have z2 := hr9.cell (i := 2) (by simp); have f0 := hr9.free 0; have f1 := hr9.free 1; have f2 := hr9.free 2; clear k5 k6 hr9 hk6 hk9))
          all_goals
            obtain ⟨y0, y1, y2, hra⟩ := rat_stored HR9.out HF9.out K5.out K6.out
            generalize R.num.length = n7 at *
            generalize R.den.length = n8 at *
            go_wp2
            refine bodyPost_ret (v := .agg #[.bool R.neg, .slice a5 n7 c5, .slice a6 n8 c6]) ?_ rfl ⟨⟨_, rfl, hra⟩, ?_⟩
            · simp [results, Tryz.results106, go_sem, y0, y1, y2]
            · exact (((HK2.out.trans HK9.out).store (by omega) _ _).store (by omega) _ _).store (by omega) _ _
end Go.Proofs.YtbkchheikkbebaaGreatDoor

/-
  Walks: faultlineref39.Sum, Partial. Printed by gen_EA12.py.
-/
namespace Go.Proofs.YtbkchheikkbebaaGreatDoor
open Go.RowKit

theorem RatCell.apart {w w' : World} {p g : Nat} {r r' : Rw} (h : RatCell w p r) (hne : p ≠ g) (hg : RatCell w g r') (ho : OnlyAt g w w') : RatCell w' p r := by
  obtain ⟨b1, d1, b2, d2, _, hf, _, _⟩ := hg
  obtain ⟨a1, c1, a2, c2, h1, h2, h3, h4⟩ := h
  have hl := h2.lt
  obtain ⟨cur, e2, k1, k2⟩ := h2
  exact ⟨a1, c1, a2, c2, ho.row h1 hne, ⟨cur, e2, (ho.block p hl hne).trans k1, k2⟩, h3.apart hf (by simp) ho, h4.apart hf (by simp) ho⟩
set_option maxRecDepth 100000 in
set_option maxHeartbeats 16000000 in
theorem rinsum_any (xv v : Value) (xs : List Int) (ps : List Rw) (k : Int) (w : World) (hx : IntsAt w xv xs) (hv : RatsAt w v ps) (h3 : ∀ r ∈ ps, r.Short 3) (h30 : ps.length ≤ 30) (h6 : xs.length ≤ 6 ∨ 12 < xs.length) :
    Calls Tryz.prog 49 #[xv, v, .int .i64 k] w fun e w' => (∃ v', e = .returned (.tuple #[v', .int .i64 (incE xs ps k : Nat)]) ∧ RatAt w' v' (canR (sumV xs ps k))) ∧ Kept w w' := by
  have HCK : Hid (∀ W, Kept w W → Calls Tryz.prog 105 #[xv, v, .int .i64 k] W fun e w' => e = .returned (.int .i64 (incE xs ps k : Nat)) ∧ Kept W w') := Lib.hid fun W hk => refincheck_any xv v xs ps k W (hx.kept hk) (hv.kept hk) h3
  have HSU : Hid (incE xs ps k = 0 → ∀ n : Nat, n ≤ 12 → ∀ W, Kept w W → Calls Tryz.prog 106 #[xv, v, .int .i64 n, .int .i64 0] W fun e w' => (∃ v', e = .returned v' ∧ RatAt w' v' (canR (incR ps (natsI xs) n))) ∧ Kept W w') := Lib.hid fun h0 n hn W hk => by
    obtain ⟨hr, _, _⟩ := incE_zero h0
    have hnl := hr.nlen
    have hxn : IntsAt W xv (ofN (natsI xs)) := by rw [← (nats_of (chk_ok hr.ok).2).1]; exact hx.kept hk
    exact refsum_any v ps h3 h30 (natsI xs) xv n 0 W hxn (hv.kept hk) (by have := hr.len; omega) hn hr.gt (by decide) (pow_gt (by omega) (Nat.two_pow_pos _))
  have HKB : Hid (incE xs ps k = 0 → 0 ≤ k ∧ k < 13) := Lib.hid fun h0 => by have := (incE_zero h0).2; omega
  obtain ⟨R, hR⟩ : ∃ R, R = canR (sumV xs ps k) := ⟨_, rfl⟩
  rw [← hR]
  have HRR := Lib.hid hR
  obtain ⟨q, hq⟩ : ∃ q, q = incE xs ps k := ⟨_, rfl⟩
  rw [← hq] at HCK HSU HKB ⊢
  have HQQ := Lib.hid hq
  obtain ⟨xa, xc, hxs, _⟩ := id hx
  obtain ⟨m, hml⟩ : ∃ m, m = xs.length := ⟨_, rfl⟩
  rw [← hml] at hxs
  subst hxs
  obtain ⟨pa, pc1, hps⟩ := hv.shape
  obtain ⟨pn, hpl⟩ : ∃ pn, pn = ps.length := ⟨_, rfl⟩
  rw [← hpl] at hps
  subst hps
  obtain ⟨w2, hw2⟩ : ∃ w2, w2 = w.alloc (.cells #[.bool false, .slice none 0 0, .slice none 0 0] 39) := ⟨_, rfl⟩
  have HR2 : Hid (RowAt w2 w.heap.size 39 [.bool false, .slice none 0 0, .slice none 0 0]) := Lib.hid (by rw [hw2]; exact RowAt.made w #[.bool false, .slice none 0 0, .slice none 0 0] 39)
  have HF2 : Hid (FixAt w2 w.heap.size [.bool false, .slice none 0 0, .slice none 0 0]) := Lib.hid (by rw [hw2]; exact FixAt.made w #[.bool false, .slice none 0 0, .slice none 0 0] 39)
  have HK2 : Hid (Kept w w2) := Lib.hid (by rw [hw2]; exact (Kept.refl _).alloc _)
  have HW2 := Lib.hid hw2
  clear hx hv h3 h30 h6 hR hq hml hpl hw2
  by_cases h0 : q = 0
  · subst h0
    obtain ⟨hk0, hk13⟩ := HKB.out rfl
    replace HSU := Lib.hid (HSU.out rfl)
    obtain ⟨j, rfl⟩ : ∃ j : Nat, k = (j : Int) := ⟨k.toNat, by omega⟩
    have hj : j < 13 := by omega
    have HRJ : Hid (R = canR (incR ps (natsI xs) j)) := Lib.hid (by rw [HRR.out, sumV, if_pos HQQ.out.symm, Int.toNat_natCast])
    go_enter Tryz.func49, Tryz.ntmps49
    go_wp2_with fail
    rw [← HW2.out]
    refine (HCK.out _ HK2.out).mono ?_
    rintro e w3 ⟨rfl, hk3⟩
    have HK3 := Lib.hid (HK2.out.trans hk3)
    have HR3 := Lib.hid (HR2.out.kept hk3)
    have HF3 := Lib.hid (HF2.out.kept hk3)
    clear hk3
    go_wp2_with fail
    refine (HSU.out j (by omega) _ HK3.out).mono ?_
    rintro e w4 ⟨⟨v4, rfl, hv4⟩, hk4⟩
    rw [← HRJ.out] at hv4
    have HK4 := Lib.hid (HK3.out.trans hk4)
    have hr4 := HR3.out.kept hk4
    have HF4 := Lib.hid (HF3.out.kept hk4)
    obtain ⟨u5, u6, rfl, k5, k6⟩ := hv4
    obtain ⟨a5, c5, rfl⟩ := k5.shape
    obtain ⟨a6, c6, rfl⟩ := k6.shape
    obtain ⟨y0, y1, y2, hra⟩ := rat_stored hr4 HF4.out k5 k6
    have g0 := hr4.cell (i := 0) (by simp)
    have g1 := hr4.cell (i := 1) (by simp)
    have g2 := hr4.cell (i := 2) (by simp)
    have f0 := hr4.free 0
    have f1 := hr4.free 1
    have f2 := hr4.free 2
    have hlt4 := hr4.lt
    have HRA := Lib.hid hra
    have Y := Lib.hid (And.intro y0 (And.intro y1 y2))
    clear hra y0 y1 y2 k5 k6 hr4 hk4
    generalize R.num.length = n7 at *
    generalize R.den.length = n8 at *
    generalize R.neg = n9 at *
    go_wp2
    refine bodyPost_ret (v := .tuple #[.agg #[.bool n9, .slice a5 n7 c5, .slice a6 n8 c6], .int .i64 0]) ?_ rfl ⟨⟨_, rfl, HRA.out⟩, ?_⟩
    · simp [results, Tryz.results49, go_sem, Y.out.1, Y.out.2.1, Y.out.2.2]
    · exact ((HK4.out.store (by omega) _ _).store (by omega) _ _).store (by omega) _ _
  · have HRZ : Hid (R = canR 0) := Lib.hid (by rw [HRR.out, sumV, if_neg (by rw [← HQQ.out]; exact h0)])
    have hqz : ¬ (q : Int) = 0 := by omega
    have hqn : ((q : Int) != 0) = true := by simp; omega
    clear h0
    go_enter Tryz.func49, Tryz.ntmps49
    go_wp2_with fail
    rw [← HW2.out]
    refine (HCK.out _ HK2.out).mono ?_
    rintro e w5 ⟨rfl, hk5⟩
    have hr5 := HR2.out.kept hk5
    have HF5 := Lib.hid (HF2.out.kept hk5)
    have HK5 := Lib.hid (HK2.out.trans hk5)
    obtain ⟨y0, y1, y2, hra⟩ := rat_stored (r := ⟨false, [], []⟩) hr5 HF5.out (WdsAt.nil _) (WdsAt.nil _)
    have Y := Lib.hid (And.intro y0 (And.intro y1 y2))
    have HRA := Lib.hid hra
    have g0 := hr5.cell (i := 0) (by simp)
    have g1 := hr5.cell (i := 1) (by simp)
    have g2 := hr5.cell (i := 2) (by simp)
    have f0 := hr5.free 0
    have f1 := hr5.free 1
    have f2 := hr5.free 2
    have hlt5 := hr5.lt
    clear hk5 hr5 y0 y1 y2 hra
    go_wp2
    refine bodyPost_ret (v := .tuple #[.agg #[.bool false, .slice none 0 0, .slice none 0 0], .int .i64 (q : Nat)]) ?_ rfl ⟨⟨_, rfl, by rw [HRZ.out, canR_zero]; exact HRA.out⟩, ?_⟩
    · simp [results, Tryz.results49, go_sem, Y.out.1, Y.out.2.1, Y.out.2.2]
    · exact ((HK5.out.store (by omega) _ _).store (by omega) _ _).store (by omega) _ _
set_option maxRecDepth 100000 in
set_option maxHeartbeats 16000000 in
theorem rinpart_any (xv v : Value) (xs : List Int) (ps : List Rw) (k : Int) (w : World) (hx : IntsAt w xv xs) (hv : RatsAt w v ps) (h3 : ∀ r ∈ ps, r.Short 3) (h30 : ps.length ≤ 30) (h6 : xs.length ≤ 6 ∨ 12 < xs.length) :
    Calls Tryz.prog 39 #[xv, v, .int .i64 k] w fun e w' => (∃ v', e = .returned (.tuple #[v', .int .i64 (incE xs ps k : Nat)]) ∧ RatAt w' v' (canR (partV xs ps k))) ∧ Kept w w' := by
  have HCK : Hid (∀ W, Kept w W → Calls Tryz.prog 105 #[xv, v, .int .i64 k] W fun e w' => e = .returned (.int .i64 (incE xs ps k : Nat)) ∧ Kept W w') := Lib.hid fun W hk => refincheck_any xv v xs ps k W (hx.kept hk) (hv.kept hk) h3
  have HSU : Hid (incE xs ps k = 0 → ∀ n : Nat, n ≤ 12 → ∀ W, Kept w W → Calls Tryz.prog 106 #[xv, v, .int .i64 n, .int .i64 0] W fun e w' => (∃ v', e = .returned v' ∧ RatAt w' v' (canR (incR ps (natsI xs) n))) ∧ Kept W w') := Lib.hid fun h0 n hn W hk => by
    obtain ⟨hr, _, _⟩ := incE_zero h0
    have hnl := hr.nlen
    have hxn : IntsAt W xv (ofN (natsI xs)) := by rw [← (nats_of (chk_ok hr.ok).2).1]; exact hx.kept hk
    exact refsum_any v ps h3 h30 (natsI xs) xv n 0 W hxn (hv.kept hk) (by have := hr.len; omega) hn hr.gt (by decide) (pow_gt (by omega) (Nat.two_pow_pos _))
  have HKB : Hid (incE xs ps k = 0 → 0 ≤ k ∧ k < 13) := Lib.hid fun h0 => by have := (incE_zero h0).2; omega
  have HAS : Hid (incE xs ps k = 0 → ∀ n, (canR (altR ps (natsI xs) n)).Short (5889 * n + 1)) := Lib.hid fun h0 n => by
    obtain ⟨hr, _, _⟩ := incE_zero h0
    have hnl := hr.nlen
    exact altR_short h30 h3 hv.ok (by have := hr.len; omega) n
  have HIS : Hid (incE xs ps k = 0 → ∀ n, (canR (incR ps (natsI xs) n)).Short 5888) := Lib.hid fun h0 n => by
    obtain ⟨hr, _, _⟩ := incE_zero h0
    have hnl := hr.nlen
    exact incR_short h30 h3 hv.ok (by have := hr.len; omega) n
  obtain ⟨R, hR⟩ : ∃ R, R = canR (partV xs ps k) := ⟨_, rfl⟩
  rw [← hR]
  have HRR := Lib.hid hR
  obtain ⟨q, hq⟩ : ∃ q, q = incE xs ps k := ⟨_, rfl⟩
  rw [← hq] at HCK HSU HKB HAS HIS ⊢
  have HQQ := Lib.hid hq
  obtain ⟨xa, xc, hxs, _⟩ := id hx
  obtain ⟨m, hml⟩ : ∃ m, m = xs.length := ⟨_, rfl⟩
  rw [← hml] at hxs
  subst hxs
  obtain ⟨pa, pc1, hps⟩ := hv.shape
  obtain ⟨pn, hpl⟩ : ∃ pn, pn = ps.length := ⟨_, rfl⟩
  rw [← hpl] at hps
  subst hps
  obtain ⟨w2, hw2⟩ : ∃ w2, w2 = w.alloc (.cells #[.bool false, .slice none 0 0, .slice none 0 0] 39) := ⟨_, rfl⟩
  have HR2 : Hid (RowAt w2 w.heap.size 39 [.bool false, .slice none 0 0, .slice none 0 0]) := Lib.hid (by rw [hw2]; exact RowAt.made w #[.bool false, .slice none 0 0, .slice none 0 0] 39)
  have HF2 : Hid (FixAt w2 w.heap.size [.bool false, .slice none 0 0, .slice none 0 0]) := Lib.hid (by rw [hw2]; exact FixAt.made w #[.bool false, .slice none 0 0, .slice none 0 0] 39)
  have HK2 : Hid (Kept w w2) := Lib.hid (by rw [hw2]; exact (Kept.refl _).alloc _)
  have HW2 := Lib.hid hw2
  clear hx hv h3 h30 h6 hR hq hml hpl hw2
  by_cases h0 : q = 0
  · subst h0
    obtain ⟨hk0, hk13⟩ := HKB.out rfl
    replace HSU := Lib.hid (HSU.out rfl)
    obtain ⟨j, rfl⟩ : ∃ j : Nat, k = (j : Int) := ⟨k.toNat, by omega⟩
    have hj : j < 13 := by omega
    have HRJ : Hid (R = canR (altR ps (natsI xs) j)) := Lib.hid (by rw [HRR.out, partV, if_pos HQQ.out.symm, Int.toNat_natCast])
    replace HAS := Lib.hid (HAS.out rfl)
    replace HIS := Lib.hid (HIS.out rfl)
    generalize natsI xs = ss at *
    go_enter Tryz.func39, Tryz.ntmps39
    go_wp2_with fail
    rw [← HW2.out]
    refine (HCK.out _ HK2.out).mono ?_
    rintro e w3 ⟨rfl, hk3⟩
    have HK3 := Lib.hid (HK2.out.trans hk3)
    have HR3 := Lib.hid (HR2.out.kept hk3)
    have HF3 := Lib.hid (HF2.out.kept hk3)
    clear hk3
    go_wp2_with fail
    obtain ⟨w4, hw4⟩ : ∃ w4, w4 = w3.alloc (.cells #[.bool false, .slice none 0 0, .slice none 0 0] 39) := ⟨_, rfl⟩
    have HC4 : Hid (RatCell w4 w3.heap.size (canR (altR ps ss 0))) := Lib.hid (by rw [hw4]; exact RatCell.made (r := ⟨false, [], []⟩) (WdsAt.nil w3) (WdsAt.nil w3))
    have HK34 : Hid (Kept w3 w4) := Lib.hid (by rw [hw4]; exact (Kept.refl _).alloc _)
    have HW4 := Lib.hid hw4
    clear hw4
    try rw [← HW4.out]
    go_loopg [10] (j + 1) (fun kx s10 wr => ∃ n : Nat, 1 ≤ n ∧ n ≤ j + 1 ∧ s10 = .int .i64 n ∧ j + 1 - n ≤ kx ∧ Hid (RatCell wr w3.heap.size (canR (altR ps ss (n - 1)))) ∧ Hid (Kept w3 wr))
    case atStart => exact ⟨1, Nat.le_refl _, by omega, rfl, by omega, HC4, HK34⟩
    case round =>
      obtain ⟨n, hn1, hn, rfl, hnx, HX, HKr⟩ := hrel
      have HKw := Lib.hid (HK3.out.trans HKr.out)
      by_cases hlt : n ≤ j
      · have hni : (n : Int) ≤ (j : Int) := by omega
        have hn12 : n ≤ 12 := by omega
        obtain ⟨i, hi⟩ : ∃ i, i = n - 1 := ⟨_, rfl⟩
        have hin : n = i + 1 := by omega
        rw [← hi] at HX
        have has := HAS.out i
        have his := HIS.out n
        obtain ⟨wo, rfl⟩ : ∃ wo : World, wo = wr := ⟨_, rfl⟩
        have HSN := Lib.hid (HSU.out n hn12 wo HKw.out)
        obtain ⟨x, hx⟩ : ∃ x, x = canR (incR ps ss n) := ⟨_, rfl⟩
        rw [← hx] at HSN his
        have hxr : ratOf x = incR ps ss n := by rw [hx]; exact ratOf_can _
        have hxok : x.Ok := by rw [hx]; exact canR_ok _
        rcases Nat.mod_two_eq_zero_or_one n with hpar | hpar
        · have etm : Int.tmod (n : Int) 2 = 0 := by rw [Int.tmod_eq_emod_of_nonneg (by omega)]; omega
          have hng := short_neg hxok his (by omega)
          obtain ⟨y, hy⟩ : ∃ y, y = canR (- ratOf x) := ⟨_, rfl⟩
          rw [← hy] at hng
          have HNE : Hid (∀ W u, RatAt W u x → Calls Tryz.prog 107 #[u] W fun e w' => (∃ v', e = .returned v' ∧ RatAt w' v' y) ∧ Kept W w') := Lib.hid fun W u hu => by
            rw [hy]; exact refneg_any u x W hu ⟨Nat.le_trans his.1 (by omega), Nat.le_trans his.2 (by omega)⟩
          obtain ⟨R9, hR9⟩ : ∃ R9, R9 = canR (altR ps ss n) := ⟨_, rfl⟩
          have HAD : Hid (∀ W u1 u2, RatAt W u1 (canR (altR ps ss i)) → RatAt W u2 y → Calls Tryz.prog 91 #[u1, u2] W fun e w' => (∃ v', e = .returned v' ∧ RatAt w' v' R9) ∧ Kept W w') := Lib.hid fun W u1 u2 k1 k2 => by
            have h := refadd02_any u1 u2 _ _ W k1 k2 ⟨Nat.le_trans has.1 (by omega), Nat.le_trans has.2 (by omega)⟩ ⟨Nat.le_trans hng.1 (by omega), Nat.le_trans hng.2 (by omega)⟩
            rw [hy, ratOf_can, ratOf_can, hxr, ← Rat.sub_eq_add_neg, hin, ← altR_even (by omega), ← hin, ← hR9] at h
            exact h
          have HR9 := Lib.hid hR9
          clear has his hng hx hxr hxok hy hR9 hpar hi hin
          go_wp2_with fail
          refine HSN.out.mono ?_
          rintro e w5 ⟨⟨v5, rfl, hv5⟩, hk5⟩
          have HX5 := Lib.hid (HX.out.kept hk5)
          have HK5 := Lib.hid (HKr.out.trans hk5)
          obtain ⟨u1, u2, rfl, h1, h2⟩ := hv5
          obtain ⟨a1, c1, rfl⟩ := h1.shape
          obtain ⟨a2, c2, rfl⟩ := h2.shape
          obtain ⟨w6, hw6⟩ : ∃ w6, w6 = w5.alloc (.cells #[.bool x.neg, .slice a1 x.num.length c1, .slice a2 x.den.length c2] 39) := ⟨_, rfl⟩
          have hk56 : Kept w5 w6 := by rw [hw6]; exact (Kept.refl _).alloc _
          have HV6 : Hid (RatAt w6 (.agg #[.bool x.neg, .slice a1 x.num.length c1, .slice a2 x.den.length c2]) x) := Lib.hid ⟨_, _, rfl, h1.kept hk56, h2.kept hk56⟩
          have HX6 := Lib.hid (HX5.out.kept hk56)
          have HY6 : Hid (RatCell w6 w5.heap.size x) := Lib.hid (by rw [hw6]; exact RatCell.made h1 h2)
          have HK6 := Lib.hid (HK5.out.trans hk56)
          have HG5 : Hid (w3.heap.size < w5.heap.size) := Lib.hid (by obtain ⟨_, _, _, _, _, _, h, _⟩ := HX5.out.at; exact h)
          have HW6 := Lib.hid hw6
          clear h1 h2 hk5 hw6 hk56
          generalize x.neg = x0 at HW6 HV6 ⊢
          generalize x.num.length = x1 at HW6 HV6 ⊢
          generalize x.den.length = x2 at HW6 HV6 ⊢
          go_wp2_with fail
          rw [← HW6.out]
          refine (HNE.out _ _ HV6.out).mono ?_
          rintro e w7 ⟨⟨v7, rfl, hv7⟩, hk7⟩
          have HX7 := Lib.hid (HX6.out.kept hk7)
          have hy7 := HY6.out.kept hk7
          have HK7 := Lib.hid (HK6.out.trans hk7)
          obtain ⟨u7, u8, rfl, k7, k8⟩ := hv7
          obtain ⟨a7, c7, rfl⟩ := k7.shape
          obtain ⟨a8, c8, rfl⟩ := k8.shape
          obtain ⟨_, _, _, _, ⟨t0, t1, t2⟩, ⟨f0, f1, f2⟩, hgl7, _⟩ := hy7.at
          have hO := (((OnlyAt.refl w5.heap.size w7).store 0 (.bool y.neg)).store 1 (.slice a7 y.num.length c7)).store 2 (.slice a8 y.den.length c8)
          have hy8 := hy7.store k7 k8
          have hx8 := HX7.out.apart (Nat.ne_of_lt HG5.out) hy7 hO
          have hk8 := hO.toKept HK7.out (Nat.le_of_lt HG5.out)
          obtain ⟨w8, hw8⟩ : ∃ w8, w8 = ((w7.setCell ⟨w5.heap.size, 0, none⟩ (.bool y.neg)).setCell ⟨w5.heap.size, 1, none⟩ (.slice a7 y.num.length c7)).setCell ⟨w5.heap.size, 2, none⟩ (.slice a8 y.den.length c8) := ⟨_, rfl⟩
          have hyr := hy7
          obtain ⟨_, _, _, _, hrow, _, _, _⟩ := hyr
          have hrw := ((hrow.store 0 (.bool y.neg)).store 1 (.slice a7 y.num.length c7)).store 2 (.slice a8 y.den.length c8)
          simp only [List.set_cons_zero, List.set_cons_succ] at hrw
          have s0 := hrw.cell (i := 0) (by simp)
          have s1 := hrw.cell (i := 1) (by simp)
          have s2 := hrw.cell (i := 2) (by simp)
          simp only [List.getElem_cons_succ, List.getElem_cons_zero] at s0 s1 s2
          have hyv : RatAt w8 (.agg #[.bool y.neg, .slice a7 y.num.length c7, .slice a8 y.den.length c8]) y := by
            obtain ⟨b1, e1, b2, e2, _, hf, _, _⟩ := hy7
            rw [hw8]
            exact ⟨_, _, rfl, k7.apart hf (by simp) hO, k8.apart hf (by simp) hO⟩
          obtain ⟨a5, c5, a6, c6, ⟨z0, z1, z2⟩, _, hgl8, hxa⟩ := hx8.at
          rw [← hw8] at hxa hx8 hk8
          have HX8 := Lib.hid hx8
          have HK8 := Lib.hid hk8
          have HXA := Lib.hid hxa
          have HYV := Lib.hid hyv
          have HW8 := Lib.hid hw8
          have hne : ¬ w3.heap.size = w5.heap.size := Nat.ne_of_lt HG5.out
          clear hO hy8 hrow hrw hyv hxa hx8 hk8 hy7 hk7 k7 k8 hw8
          generalize y.neg = y0 at *
          generalize y.num.length = y1 at *
          generalize y.den.length = y2 at *
          generalize (canR (altR ps ss i)).neg = z3 at *
          generalize (canR (altR ps ss i)).num.length = z4 at *
          generalize (canR (altR ps ss i)).den.length = z5 at *
          go_wp2_with fail
          rw [← HW8.out]
          refine (HAD.out _ _ _ HXA.out HYV.out).mono ?_
          rintro e w9 ⟨⟨v9, rfl, hv9⟩, hk9⟩
          have HK9 := Lib.hid (HK8.out.trans hk9)
          have hx9 := HX8.out.kept hk9
          obtain ⟨u5, u6, rfl, k5, k6⟩ := hv9
          obtain ⟨b5, d5, rfl⟩ := k5.shape
          obtain ⟨b6, d6, rfl⟩ := k6.shape
          have hs9 := hx9.store k5 k6
          obtain ⟨_, _, _, _, ⟨q0, q1, q2⟩, ⟨p0, p1, p2⟩, hgl9, _⟩ := hx9.at
          have HS9 := Lib.hid hs9
          clear hx9 hs9 k5 k6 hk9
          generalize R9.neg = n6 at *
          generalize R9.num.length = n7 at *
          generalize R9.den.length = n8 at *
          go_wp2_with fail
          go_roundg (j + 1 - (n + 1))
          case measure => omega
          case rel => exact ⟨n + 1, by omega, by omega, by go_num, by omega, Lib.hid (by rw [Nat.add_sub_cancel, ← HR9.out]; exact HS9.out), Lib.hid (((HK9.out.store (Nat.le_refl _) _ _).store (Nat.le_refl _) _ _).store (Nat.le_refl _) _ _)⟩
        · have etm : Int.tmod (n : Int) 2 = 1 := by rw [Int.tmod_eq_emod_of_nonneg (by omega)]; omega
          obtain ⟨R9, hR9⟩ : ∃ R9, R9 = canR (altR ps ss n) := ⟨_, rfl⟩
          have HAD : Hid (∀ W u1 u2, RatAt W u1 (canR (altR ps ss i)) → RatAt W u2 x → Calls Tryz.prog 91 #[u1, u2] W fun e w' => (∃ v', e = .returned v' ∧ RatAt w' v' R9) ∧ Kept W w') := Lib.hid fun W u1 u2 k1 k2 => by
            have h := refadd02_any u1 u2 _ _ W k1 k2 ⟨Nat.le_trans has.1 (by omega), Nat.le_trans has.2 (by omega)⟩ ⟨Nat.le_trans his.1 (by omega), Nat.le_trans his.2 (by omega)⟩
            rw [ratOf_can, hxr, hin, ← altR_odd (by omega), ← hin, ← hR9] at h
            exact h
          have HR9 := Lib.hid hR9
          clear has his hx hxr hxok hR9 hpar hi hin
          go_wp2_with fail
          refine HSN.out.mono ?_
          rintro e w5 ⟨⟨v5, rfl, hv5⟩, hk5⟩
          have hx5 := HX.out.kept hk5
          have HK5 := Lib.hid (HKr.out.trans hk5)
          obtain ⟨u1, u2, rfl, h1, h2⟩ := hv5
          obtain ⟨a1, c1, rfl⟩ := h1.shape
          obtain ⟨a2, c2, rfl⟩ := h2.shape
          obtain ⟨w8, hw6⟩ : ∃ w8, w8 = w5.alloc (.cells #[.bool x.neg, .slice a1 x.num.length c1, .slice a2 x.den.length c2] 39) := ⟨_, rfl⟩
          have hk56 : Kept w5 w8 := by rw [hw6]; exact (Kept.refl _).alloc _
          have HYV : Hid (RatAt w8 (.agg #[.bool x.neg, .slice a1 x.num.length c1, .slice a2 x.den.length c2]) x) := Lib.hid ⟨_, _, rfl, h1.kept hk56, h2.kept hk56⟩
          have HX8 := Lib.hid (hx5.kept hk56)
          have HK8 := Lib.hid (HK5.out.trans hk56)
          obtain ⟨a5, c5, a6, c6, ⟨z0, z1, z2⟩, _, hgl8, hxa⟩ := hx5.at
          have HXA := Lib.hid (hxa.kept hk56)
          have HW6 := Lib.hid hw6
          clear h1 h2 hk5 hw6 hk56 hx5 hxa
          generalize x.neg = x0 at HW6 HYV ⊢
          generalize x.num.length = x1 at HW6 HYV ⊢
          generalize x.den.length = x2 at HW6 HYV ⊢
          generalize (canR (altR ps ss i)).neg = z3 at *
          generalize (canR (altR ps ss i)).num.length = z4 at *
          generalize (canR (altR ps ss i)).den.length = z5 at *
          go_wp2_with fail
          rw [← HW6.out]
          refine (HAD.out _ _ _ HXA.out HYV.out).mono ?_
          rintro e w9 ⟨⟨v9, rfl, hv9⟩, hk9⟩
          have HK9 := Lib.hid (HK8.out.trans hk9)
          have hx9 := HX8.out.kept hk9
          obtain ⟨u5, u6, rfl, k5, k6⟩ := hv9
          obtain ⟨b5, d5, rfl⟩ := k5.shape
          obtain ⟨b6, d6, rfl⟩ := k6.shape
          have hs9 := hx9.store k5 k6
          obtain ⟨_, _, _, _, ⟨q0, q1, q2⟩, ⟨p0, p1, p2⟩, hgl9, _⟩ := hx9.at
          have HS9 := Lib.hid hs9
          clear hx9 hs9 k5 k6 hk9
          generalize R9.neg = n6 at *
          generalize R9.num.length = n7 at *
          generalize R9.den.length = n8 at *
          go_wp2_with fail
          go_roundg (j + 1 - (n + 1))
          case measure => omega
          case rel => exact ⟨n + 1, by omega, by omega, by go_num, by omega, Lib.hid (by rw [Nat.add_sub_cancel, ← HR9.out]; exact HS9.out), Lib.hid (((HK9.out.store (Nat.le_refl _) _ _).store (Nat.le_refl _) _ _).store (Nat.le_refl _) _ _)⟩
      · have hne : n - 1 = j := by omega
        have hni : ¬ (n : Int) ≤ (j : Int) := by omega
        have HX2 : Hid (RatCell wr w3.heap.size R) := Lib.hid (by rw [HRJ.out, ← hne]; exact HX.out)
        have hr4 := HR3.out.kept HKr.out
        have HF4 := Lib.hid (HF3.out.kept HKr.out)
        have HK4 := HKw
        obtain ⟨a5, c5, a6, c6, ⟨x0, x1, x2⟩, _, hgl, u7, u8, e9, k5, k6⟩ := HX2.out.at
        simp only [Value.agg.injEq] at e9
        have e9' := congrArg Array.toList e9
        simp at e9'
        obtain ⟨rfl, rfl⟩ := e9'
        obtain ⟨y0, y1, y2, hra⟩ := rat_stored hr4 HF4.out k5 k6
        have g0 := hr4.cell (i := 0) (by simp)
        have g1 := hr4.cell (i := 1) (by simp)
        have g2 := hr4.cell (i := 2) (by simp)
        have f0 := hr4.free 0
        have f1 := hr4.free 1
        have f2 := hr4.free 2
        have hlt4 := hr4.lt
        have HRA := Lib.hid hra
        have Y := Lib.hid (And.intro y0 (And.intro y1 y2))
        clear hra y0 y1 y2 k5 k6 hr4 hne e9
        generalize R.num.length = n7 at *
        generalize R.den.length = n8 at *
        generalize R.neg = n9 at *
        go_wp2
        refine bodyPost_ret (v := .tuple #[.agg #[.bool n9, .slice a5 n7 c5, .slice a6 n8 c6], .int .i64 0]) ?_ rfl ⟨⟨_, rfl, HRA.out⟩, ?_⟩
        · simp [results, Tryz.results39, go_sem, Y.out.1, Y.out.2.1, Y.out.2.2]
        · exact ((HK4.out.store (by omega) _ _).store (by omega) _ _).store (by omega) _ _
  · have HRZ : Hid (R = canR 0) := Lib.hid (by rw [HRR.out, partV, if_neg (by rw [← HQQ.out]; exact h0)])
    have hqz : ¬ (q : Int) = 0 := by omega
    have hqn : ((q : Int) != 0) = true := by simp; omega
    clear h0
    go_enter Tryz.func39, Tryz.ntmps39
    go_wp2_with fail
    rw [← HW2.out]
    refine (HCK.out _ HK2.out).mono ?_
    rintro e w5 ⟨rfl, hk5⟩
    have hr5 := HR2.out.kept hk5
    have HF5 := Lib.hid (HF2.out.kept hk5)
    have HK5 := Lib.hid (HK2.out.trans hk5)
    obtain ⟨y0, y1, y2, hra⟩ := rat_stored (r := ⟨false, [], []⟩) hr5 HF5.out (WdsAt.nil _) (WdsAt.nil _)
    have Y := Lib.hid (And.intro y0 (And.intro y1 y2))
    have HRA := Lib.hid hra
    have g0 := hr5.cell (i := 0) (by simp)
    have g1 := hr5.cell (i := 1) (by simp)
    have g2 := hr5.cell (i := 2) (by simp)
    have f0 := hr5.free 0
    have f1 := hr5.free 1
    have f2 := hr5.free 2
    have hlt5 := hr5.lt
    clear hk5 hr5 y0 y1 y2 hra
    go_wp2
    refine bodyPost_ret (v := .tuple #[.agg #[.bool false, .slice none 0 0, .slice none 0 0], .int .i64 (q : Nat)]) ?_ rfl ⟨⟨_, rfl, by rw [HRZ.out, canR_zero]; exact HRA.out⟩, ?_⟩
    · simp [results, Tryz.results39, go_sem, Y.out.1, Y.out.2.1, Y.out.2.2]
    · exact ((HK5.out.store (by omega) _ _).store (by omega) _ _).store (by omega) _ _
end Go.Proofs.YtbkchheikkbebaaGreatDoor
